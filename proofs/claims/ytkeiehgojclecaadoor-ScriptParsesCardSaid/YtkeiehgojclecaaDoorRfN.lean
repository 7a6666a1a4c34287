/- The reference's Parse. -/
import Derived.Test.YtkeiehgojclecaaDoorRfM

import Derived.Test.YtkeiehgojclecaaDoorScrJ

namespace Go.Proofs.YtkeiehgojclecaaDoor

open Go.RowKit

attribute [local go_sem ↓] Go.wp_at_zero Go.wp_at_succ

attribute [local go_sem] run_store_float

theorem lines_spl (l : List UInt8) : spl 10 l = (linesR l).1 ++ (if (linesR l).2 = true then [] else [[]]) ∧ ((linesR l).2 = true → (linesR l).1.getLast? ≠ some []) ∧ manyO (spl 10 l) = (linesR l).1.length := by
  unfold linesR manyO
  by_cases h : (spl 10 l).getLast? = some []
  · rw [if_pos h, if_pos h]
    refine ⟨?_, (fun h => by cases h), by simp⟩
    obtain ⟨ps, hps⟩ := List.getLast?_eq_some_iff.1 h
    rw [hps]; simp
  · rw [if_neg h, if_neg h]
    exact ⟨by simp, fun _ => h, rfl⟩
theorem heap_nums (l : List UInt8) : heapO l = if (wordR l).1 = [104, 101, 97, 112] then (match nR 3 (wordR l).2.1 with | some [a, b, c] => some (a, b, c) | _ => none) else none := by
  rw [heap_rest, ← rest_nums]
  by_cases h : (wordR l).1 = [104, 101, 97, 112]
  · rw [if_pos h]
    by_cases h3 : (restR l).length = 2 + 1
    · rw [if_pos ⟨h, h3⟩, if_pos h3]; rfl
    · rw [if_neg (fun e => h3 e.2), if_neg h3]
  · rw [if_neg h, if_neg (fun e => h e.1)]
/-- One line of the text is read. -/
theorem go_line {l : List UInt8} {all : List (List UInt8)} {left : Bool} {i : Nat} {s : Shp} {xs : List Ch} (hs : spl 10 l = all ++ (if left = true then [] else [[]])) (hla : left = true → all.getLast? ≠ some []) (hi : i < all.length) :
    goO i s xs ((spl 10 l).drop i) = if left = false ∨ i + 1 < all.length then (if i = 0 then (match heapO all[i] with | some s' => goO (i + 1) s' xs ((spl 10 l).drop (i + 1)) | none => ((0, 0, 0), [], (i : Int) + 1, 7))
      else match lineO all[i] with | some c => goO (i + 1) s (xs ++ [c]) ((spl 10 l).drop (i + 1)) | none => ((0, 0, 0), [], (i : Int) + 1, 7)) else ((0, 0, 0), [], (i : Int) + 1, 7) := by
  by_cases h : left = false ∨ i + 1 < all.length
  · rw [if_pos h]
    have hlt : i + 1 < (spl 10 l).length := by
      rw [hs, List.length_append]
      rcases h with h | h
      · subst h; simp; omega
      · omega
    rw [goO_step i s xs _ hlt]
    have e : (spl 10 l)[i]'(by omega) = all[i] := by
      have : ∀ (L : List (List UInt8)) (h : i < L.length), L = all ++ (if left = true then [] else [[]]) → L[i]'h = all[i] := by
        intro L h e; subst e; rw [List.getElem_append_left hi]
      exact this _ _ hs
    rw [e]
    rfl
  · rw [if_neg h]
    have hl : left = true := by cases left with | true => rfl | false => exact absurd (.inl rfl) h
    have hlen : (spl 10 l).length = i + 1 := by
      rw [hs, hl]; simp; omega
    rw [goO_end i s xs _ hlen, if_pos]
    right
    intro e
    have hg := hla hl
    rw [hl] at hs
    simp only [if_true, List.append_nil] at hs
    rw [← hs, List.getLast?_eq_getElem?, hlen] at hg
    apply hg
    rw [show i + 1 - 1 = i by omega, List.getElem?_eq_getElem (by omega), e]
theorem go_done {l : List UInt8} {all : List (List UInt8)} {left : Bool} {s : Shp} {xs : List Ch} (hs : spl 10 l = all ++ (if left = true then [] else [[]])) (h0 : 0 < all.length) :
    goO all.length s xs ((spl 10 l).drop all.length) = (s, xs, 0, 0) := by
  rw [hs, List.drop_left]
  cases left with
  | true => simp [goO]
  | false =>
    simp only [Bool.false_eq_true, if_false, goO]
    rw [if_neg (by rintro (h | h); exact absurd h (by omega); exact h rfl)]
set_option maxRecDepth 100000 in
set_option maxHeartbeats 16000000 in
theorem rparse_any (l : List UInt8) (hl : l.length ≤ 6000) (w : World) :
    Calls Tryd.prog 16 #[.string (S l)] w fun e w' => Parsed w e w' (parseO l) := by
  have hb0 := (Below.refl w.heap.size w).alloc (Nat.le_refl _) (.cells #[.int .i64 0, .int .i64 0, .int .i64 0] 26)
  have bx := heap_alloc_new w (.cells #[.int .i64 0, .int .i64 0, .int .i64 0] 26)
  have hho : parseO l = if 65536 < l.length ∨ 4000 < manyO (spl 10 l) then ((0, 0, 0), [], 0, 6) else goO 0 (0, 0, 0) [] (spl 10 l) := rfl
  obtain ⟨hspl, hla, hmn⟩ := lines_spl l
  have hcnt := spl_count 10 l
  have hpl := spl_length 10 l
  have hsz : (S l).size = l.length := S_size l
  have hln := Lib.hid (fun X => rlines_any l (by omega) X)
  go_enter Tryd.func16, Tryd.ntmps16
  go_upto_region 1 with fail
  generalize w.alloc (.cells #[.int .i64 0, .int .i64 0, .int .i64 0] 26) = W at *
  obtain ⟨D, hD, hD'⟩ : ∃ D, Hid (D = w.heap.size) ∧ D = w.heap.size := ⟨_, Lib.hid rfl, rfl⟩
  simp only [← hD'] at bx ⊢
  have hDw : w.heap.size ≤ D := Nat.le_of_eq hD'.symm
  clear hD'
  generalize linesR l = LR at *
  obtain ⟨all, left⟩ := LR
  dsimp only at hspl hla hmn hln
  go_upto_region 2 with (go_at_call 29; refine (hln.out _).mono ?_; rintro r w1 ⟨⟨v6, rfl, hrt⟩, hb1⟩)
  have hbw := hb0.trans (hb1.mono hb0.size)
  have bx1 := (hb1.block D (Array.getElem?_eq_some_iff.1 bx).1).trans bx
  have hal : ∀ p ∈ all, p.length < 1000000 := fun p hp => by
    have := hpl p (by rw [hspl]; simp [hp])
    omega
  have hN : all.length ≤ 6001 := by
    have := congrArg List.length hspl
    rw [List.length_append] at this
    omega
  obtain ⟨ao, cap, rfl, hcap, hcap2, hrow⟩ := hrt.cells
  obtain ⟨N, hNN, hNN'⟩ : ∃ N, Hid (N = all.length) ∧ N = all.length := ⟨_, Lib.hid rfl, rfl⟩
  rw [← hNN'] at hmn hN hcap
  rw [hmn] at hho
  simp only [← hNN']
  clear hNN' hmn hcnt hpl hln hb1 hb0 bx hrt
  replace hho := Lib.hid hho
  replace hspl := Lib.hid hspl
  replace hla := Lib.hid hla
  replace hal := Lib.hid hal
  replace hrow := Lib.hid hrow
  have q0 : w1.cell? ⟨D, 0, .none⟩ = some (.int .i64 0) := rowCells bx1 0
  have q1 : w1.cell? ⟨D, 1, .none⟩ = some (.int .i64 0) := rowCells bx1 1
  have q2 : w1.cell? ⟨D, 2, .none⟩ = some (.int .i64 0) := rowCells bx1 2
  have qf := rowFree bx1
  have h65 : ¬ (65536 : Int) < (l.length : Int) := by omega
  by_cases h4 : 4000 < N
  · have h4i : (4000 : Int) < (N : Int) := by omega
    have hp : Hid (parseO l = ((0, 0, 0), [], 0, 6)) := Lib.hid (by rw [hho.out, if_pos (.inr h4)])
    replace h4 := Lib.hid h4
    go_wp2_with fail
    refine bodyPost_ret (v := .tuple #[.agg #[.int .i64 0, .int .i64 0, .int .i64 0], .slice none 0 0, .int .i64 0, .int .i64 6]) (by simp [results, Tryd.results16, go_sem, q0, q1, q2]) rfl ⟨⟨.slice none 0 0, by rw [hp.out], by rw [hp.out]; exact (OwnC.nil 0 0 _).rd⟩, ?_⟩
    repeat (first | with_reducible exact hbw | with_reducible refine Below.setCell ?_ hDw _)
  have h4i : ¬ (4000 : Int) < (N : Int) := by omega
  have hp0 : Hid (parseO l = goO 0 (0, 0, 0) [] (spl 10 l)) := Lib.hid (by rw [hho.out, if_neg (by omega)])
  clear hho
  by_cases hz : N = 0
  · have hzi : ((N : Int) == 0) = true := by simp [hz]
    have hp : Hid (parseO l = ((0, 0, 0), [], 1, 7)) := Lib.hid (by
      have ha : all = [] := List.eq_nil_of_length_eq_zero (by rw [← hNN.out]; exact hz)
      have hsp := hspl.out
      have hlf : left = false := by
        cases left with
        | false => rfl
        | true => rw [ha] at hsp; exact absurd hsp (spl_ne 10 l)
      rw [ha, hlf] at hsp
      rw [hp0.out, hsp]
      rfl)
    replace hz := Lib.hid hz
    go_wp2_with fail
    refine bodyPost_ret (v := .tuple #[.agg #[.int .i64 0, .int .i64 0, .int .i64 0], .slice none 0 0, .int .i64 1, .int .i64 7]) (by simp [results, Tryd.results16, go_sem, q0, q1, q2]) rfl ⟨⟨.slice none 0 0, by rw [hp.out], by rw [hp.out]; exact (OwnC.nil 0 0 _).rd⟩, ?_⟩
    repeat (first | with_reducible exact hbw | with_reducible refine Below.setCell ?_ hDw _)
  have hzi : ((N : Int) == 0) = false := by simpa using hz
  obtain ⟨b, off, rfl, hbl, hx0⟩ := hrow.out (fun e => hz (by rw [hNN.out, e]; rfl))
  replace hz := Lib.hid hz
  go_upto_region 9 with fail
  clear q0 q1 q2 qf
  have lb1 : b < w1.heap.size := hbl
  have lD1 := (Array.getElem?_eq_some_iff.1 bx1).1
  have bg := heap_alloc_new w1 (.cells #[.int .i64 0, .int .i64 0, .int .i64 0] 26)
  have hb9 := (Below.refl w1.heap.size w1).alloc (Nat.le_refl _) (.cells #[.int .i64 0, .int .i64 0, .int .i64 0] 26)
  have h9s : (w1.alloc (.cells #[.int .i64 0, .int .i64 0, .int .i64 0] 26)).heap.size = w1.heap.size + 1 := by simp
  generalize w1.alloc (.cells #[.int .i64 0, .int .i64 0, .int .i64 0] 26) = Z at *
  obtain ⟨G, hG, hG'⟩ : ∃ G, Hid (G = w1.heap.size) ∧ G = w1.heap.size := ⟨_, Lib.hid rfl, rfl⟩
  simp only [← hG'] at bg ⊢
  have hG1 : w1.heap.size ≤ G := Nat.le_of_eq hG'.symm
  have lg : G < Z.heap.size := by omega
  have hx9 : Hid (∀ X : World, X.heap[b]? = Z.heap[b]? → ∀ i (hi : i < all.length), X.cell? ⟨b, off + i, .none⟩ = some (.string (S all[i]))) := Lib.hid fun X hX i hi => (cell_blk hX).trans ((hb9.cell (p := ⟨b, off + i, .none⟩) hbl).trans (hx0 i hi))
  have hZ0 : Below w.heap.size w Z := hbw.trans (hb9.mono hbw.size)
  have lb9 : b < Z.heap.size := by omega
  have lD9 : D < Z.heap.size := by omega
  have hbG : b ≠ G := by omega
  have hDG : D ≠ G := by omega
  have hGw : w.heap.size ≤ G := by have := hbw.size; omega
  have bx9 : Z.heap[D]? = some (.cells #[.int .i64 0, .int .i64 0, .int .i64 0] 26 (0, 0)) := (hb9.block D lD1).trans bx1
  have hOB : Hid (∀ X, Only (fun k => k = G) Z X → Below w.heap.size w X) := Lib.hid fun X hX => hZ0.trans (hX.below hZ0.size fun k e => by rw [e]; exact Nat.le_trans hbw.size hG1)
  replace hG' := Lib.hid hG'
  replace hx0 := Lib.hid hx0
  clear bx1 hbw hb9 h9s hG1 hbl lb1 lD1 hrow
  obtain ⟨i0, hi0, hzz0, hzz1, hzz2⟩ := info_parts infoChR
  go_wp2_with fail
  go_loopw [9, 10] (fun v9 v10 wr => ∃ (i : Nat) (xs : List Ch) (sa sb sc : Int), i ≤ N ∧ v10 = .int .i64 i ∧ xs.length ≤ i ∧ Only (fun k => k = G) Z wr ∧ wr.heap[G]? = some (.cells #[.int .i64 sa, .int .i64 sb, .int .i64 sc] 26 (0, 0)) ∧ OwnC 45 Z.heap.size wr v9 xs ∧ parseO l = goO i (sa, sb, sc) xs ((spl 10 l).drop i)) (fun _ v10 _ => N - (intOf v10).toNat)
  case atStart => exact ⟨0, [], 0, 0, 0, Nat.zero_le _, rfl, Nat.le_refl _, Only.refl _ _, bg, OwnC.nil _ _ _, by rw [hp0.out]; rfl⟩
  case round =>
    obtain ⟨i, xs, sa, sb, sc, hi, rfl, hxi, hon, hg, hown, hgo⟩ := hrel
    obtain ⟨Y, rfl⟩ : ∃ V : World, V = wr := ⟨_, rfl⟩
    replace hgo := Lib.hid hgo
    have bh := (hon.block D lD9 hDG).trans bx9
    have lgY := (Array.getElem?_eq_some_iff.1 hg).1
    have lDY := (Array.getElem?_eq_some_iff.1 bh).1
    have hYs := hon.size
    by_cases hlt : i < N
    · have hlt' : (i : Int) < (N : Int) := by omega
      have hi0' : (0 : Int) ≤ (i : Int) := by omega
      have wi1 : IntKind.i64.wrap ((i : Int) + 1) = (i : Int) + 1 := IntWalk.i64_in _ ⟨by omega, by omega⟩
      have wN1 : IntKind.i64.wrap ((N : Int) - 1) = (N : Int) - 1 := IntWalk.i64_in _ ⟨by omega, by omega⟩
      have hil : i < all.length := by have := hNN.out; omega
      have x0 : Y.cell? ⟨b, off + i, .none⟩ = some (.string (S all[i])) := hx9.out Y (hon.block b lb9 hbG) i hil
      have hstep := hgo.out.trans (go_line hspl.out hla.out hil)
      have hlen := hal.out all[i] (List.getElem_mem hil)
      clear hgo
      rw [← hNN.out] at hstep
      obtain ⟨ok0, hok, hok'⟩ : ∃ ok0, Hid (ok0 = decide (left = false ∨ i + 1 < N)) ∧ ok0 = decide (left = false ∨ i + 1 < N) := ⟨_, Lib.hid rfl, rfl⟩
      have hnok : Hid (ok0 = false → parseO l = ((0, 0, 0), [], (i : Int) + 1, 7)) := Lib.hid fun h => by
        rw [hstep, if_neg (by rw [h] at hok'; exact of_decide_eq_false hok'.symm)]
      have hyok : Hid (ok0 = true → parseO l = if i = 0 then (match heapO all[i] with | some s' => goO (i + 1) s' xs ((spl 10 l).drop (i + 1)) | none => ((0, 0, 0), [], (i : Int) + 1, 7))
          else match lineO all[i] with | some c => goO (i + 1) (sa, sb, sc) (xs ++ [c]) ((spl 10 l).drop (i + 1)) | none => ((0, 0, 0), [], (i : Int) + 1, 7)) := Lib.hid fun h => by
        rw [hstep, if_pos (by rw [h] at hok'; exact of_decide_eq_true hok'.symm)]
      clear hstep hok'
      replace hil := Lib.hid hil
      generalize all[i]'hil.out = t at *
      go_upto_region 11 with fail
      go_cut [11] (fun v11 wx => v11 = .bool ok0 ∧ wx = Y)
      case first =>
        cases left with
        | false =>
          have e : Hid (ok0 = true) := Lib.hid (by rw [hok.out]; simp)
          go_wp2_with fail
          go_meet
          exact ⟨by rw [e.out], rfl⟩
        | true =>
          by_cases h1 : i + 1 < N
          · have e : Hid (ok0 = true) := Lib.hid (by rw [hok.out]; simp [h1])
            have h1i : (i : Int) < (N : Int) - 1 := by omega
            replace h1 := Lib.hid h1
            go_wp2_with fail
            go_meet
            exact ⟨by rw [e.out], rfl⟩
          · have e : Hid (ok0 = false) := Lib.hid (by rw [hok.out]; simp [h1])
            have h1i : ¬ (i : Int) < (N : Int) - 1 := by omega
            replace h1 := Lib.hid h1
            go_wp2_with fail
            go_meet
            exact ⟨by rw [e.out], rfl⟩
      case rest =>
        obtain ⟨rfl, hw⟩ := hcut
        obtain rfl := hw.symm
        by_cases hzi2 : i = 0
        · have ei : ((i : Int) == 0) = true := by simp [hzi2]
          have hyok2 : Hid (ok0 = true → parseO l = match heapO t with | some s' => goO (i + 1) s' xs ((spl 10 l).drop (i + 1)) | none => ((0, 0, 0), [], (i : Int) + 1, 7)) := Lib.hid fun h => by
            have := hyok.out h
            rw [if_pos hzi2] at this
            exact this
          have hhn := Lib.hid (heap_nums t)
          have hwl := wordR_len t
          have hwd := Lib.hid (word_any t hlen Y)
          have x00 : Y.cell? ⟨b, off, .none⟩ = some (.string (S t)) := by
            have := x0
            rw [hzi2] at this
            exact this
          have hN0 : (0 : Int) < (N : Int) := by omega
          replace hzi2 := Lib.hid hzi2
          clear hyok
          generalize wordR t = W3 at *
          obtain ⟨A, T, more⟩ := W3
          dsimp only at hhn hwl hwd
          have hT : T.length < 1000000 := by omega
          replace hwl := Lib.hid hwl
          go_upto_region 15 with (first
            | (go_at_call 30; refine hwd.out.mono ?_; rintro r w2 ⟨rfl, hb2⟩; replace hb2 := Lib.hid hb2)
            | (go_at_call 31; refine (rnumbers_any T hT 3 (by decide) _).mono ?_; rintro r w3 ⟨⟨v3, rfl, hv3⟩, hb3⟩; replace hv3 := Lib.hid hv3; replace hb3 := Lib.hid hb3) | fail)
          have hb23 := hb2.out.trans (hb3.out.mono hb2.out.size)
          have hon3 := hon.trans (Only.of_below (F := fun k => k = G) hb23) (fun i _ h => h)
          have hg3 := (hb23.block G lgY).trans hg
          have bh3 := (hb23.block D lDY).trans bh
          have hown3 : OwnC 45 Z.heap.size w3 u9 xs := hown.later hb23
          clear hwd hb2 hb3 hb23 hon hg bh hown x0 x00 lgY lDY
          obtain ⟨f, hf⟩ : ∃ f, Hid (f = ((ok0 && (nR 3 T).isSome) && decide (A = [104, 101, 97, 112]))) := ⟨_, Lib.hid rfl⟩
          go_cut [11] (fun v11 wx => v11 = .bool f ∧ wx = w3)
          case first =>
            have ea : (A == [104, 101, 97, 112]) = decide (A = [104, 101, 97, 112]) := by rw [Bool.eq_iff_iff, beq_iff_eq, decide_eq_true_eq]
            generalize decide (A = [104, 101, 97, 112]) = z at *
            generalize (nR 3 T).isSome = z2 at *
            cases ok0 <;> cases z2
            all_goals go_wp2_with fail
            all_goals go_meet
            all_goals exact ⟨by rw [hf.out]; rfl, rfl⟩
          case rest =>
            obtain ⟨rfl, hw⟩ := hcut
            obtain rfl := hw.symm
            cases f with
            | false =>
              have hp7 : Hid (parseO l = ((0, 0, 0), [], (i : Int) + 1, 7)) := Lib.hid (by
                have hf' := hf.out
                cases ok0 with
                | false => exact hnok.out rfl
                | true =>
                  rw [hyok2.out rfl, hhn.out]
                  by_cases hA : A = [104, 101, 97, 112]
                  · rw [if_pos hA]
                    cases hn3 : nR 3 T with
                    | none => rfl
                    | some vs => rw [hn3, hA] at hf'; simp at hf'
                  · rw [if_neg hA])
              have q0 : w3.cell? ⟨D, 0, .none⟩ = some (.int .i64 0) := rowCells bh3 0
              have q1 : w3.cell? ⟨D, 1, .none⟩ = some (.int .i64 0) := rowCells bh3 1
              have q2 : w3.cell? ⟨D, 2, .none⟩ = some (.int .i64 0) := rowCells bh3 2
              have qf := rowFree bh3
              have hbX := hOB.out w3 hon3
              clear hf hyok2 hnok hhn hv3
              go_wp2_with fail
              refine bodyPost_ret (v := .tuple #[.agg #[.int .i64 0, .int .i64 0, .int .i64 0], .slice none 0 0, .int .i64 (i + 1), .int .i64 7]) (by simp [results, Tryd.results16, go_sem, q0, q1, q2]) rfl ⟨⟨.slice none 0 0, by rw [hp7.out], by rw [hp7.out]; exact (OwnC.nil 0 0 _).rd⟩, ?_⟩
              repeat (first | with_reducible refine Below.drew ?_ | with_reducible exact hbX | with_reducible refine Below.setCell ?_ hDw _)
            | true =>
              have hf' := hf.out
              have hok1 : ok0 = true := by cases ok0 with | true => rfl | false => cases hf'
              have hA : A = [104, 101, 97, 112] := by
                rw [hok1] at hf'
                have h2 := hf'.symm
                rw [Bool.and_eq_true] at h2
                exact of_decide_eq_true h2.2
              obtain ⟨vs, hvs⟩ : ∃ vs, nR 3 T = some vs := by
                cases hn3 : nR 3 T with
                | some vs => exact ⟨vs, rfl⟩
                | none => rw [hok1, hn3] at hf'; cases hf'
              have hvl := nR_length hvs
              obtain ⟨a, bb, c, rfl⟩ : ∃ a bb c, vs = [a, bb, c] := by
                match vs, hvl with
                | [a, bb, c], _ => exact ⟨a, bb, c, rfl⟩
              have hgo2 : Hid (parseO l = goO (i + 1) (a, bb, c) xs ((spl 10 l).drop (i + 1))) := Lib.hid (by rw [hyok2.out hok1, hhn.out, if_pos hA, hvs])
              have hrz := hv3.out _ hvs
              clear hf hf' hok1 hA hvs hvl hv3 hyok2 hnok hhn hok
              obtain ⟨ao3, cap3, rfl, hc3, _, hcc1⟩ := hrz.cells
              obtain ⟨d, off3, rfl, hdd, hcc⟩ := hcc1 (by simp)
              have z0 : w3.cell? ⟨d, off3, .none⟩ = some (.int .i64 a) := hcc 0 (by simp)
              have z1 : w3.cell? ⟨d, off3 + 1, .none⟩ = some (.int .i64 bb) := hcc 1 (by simp)
              have z2 : w3.cell? ⟨d, off3 + 2, .none⟩ = some (.int .i64 c) := hcc 2 (by simp)
              simp only [List.length_cons, List.length_nil] at hc3 ⊢
              clear hcc hcc1 hrz
              have g0 : w3.cell? ⟨G, 0, .none⟩ = some (.int .i64 sa) := rowCells hg3 0
              have g1 : w3.cell? ⟨G, 1, .none⟩ = some (.int .i64 sb) := rowCells hg3 1
              have g2 : w3.cell? ⟨G, 2, .none⟩ = some (.int .i64 sc) := rowCells hg3 2
              have gf := rowFree hg3
              go_upto_region 17 with fail
              go_region
              go_upto_region 21 with fail
              have hon4 : Only (fun k => k = G) Z (((w3.setCell ⟨G, 0, .none⟩ (.int .i64 a)).setCell ⟨G, 1, .none⟩ (.int .i64 bb)).setCell ⟨G, 2, .none⟩ (.int .i64 c)) := ((hon3.setCell (.inl rfl) _).setCell (.inl rfl) _).setCell (.inl rfl) _
              have hgX := sh_set hg3 a bb c
              have hownX : OwnC 45 Z.heap.size (((w3.setCell ⟨G, 0, .none⟩ (.int .i64 a)).setCell ⟨G, 1, .none⟩ (.int .i64 bb)).setCell ⟨G, 2, .none⟩ (.int .i64 c)) u9 xs := ownsRow_of_blocks hown3 fun k hk => by
                have hl := hown3.lt k hk
                have hkG : k ≠ G := fun e => by omega
                exact (Below.heap_setCell _ ⟨G, 2, .none⟩ _ k hkG).trans ((Below.heap_setCell _ ⟨G, 1, .none⟩ _ k hkG).trans (Below.heap_setCell _ ⟨G, 0, .none⟩ _ k hkG))
              clear g0 g1 g2 gf z0 z1 z2 hg3 bh3 hown3 hon3
              generalize ((w3.setCell ⟨G, 0, .none⟩ (.int .i64 a)).setCell ⟨G, 1, .none⟩ (.int .i64 bb)).setCell ⟨G, 2, .none⟩ (.int .i64 c) = X at *
              go_wp2_with fail
              exact ⟨⟨i + 1, xs, a, bb, c, by omega, by go_num, by omega, hon4.drew, hgX, hownX, hgo2.out⟩, by simp [intOf]; omega⟩
        · have ei : ((i : Int) == 0) = false := by simpa using hzi2
          have hyok2 : Hid (ok0 = true → parseO l = match lineO t with | some c => goO (i + 1) (sa, sb, sc) (xs ++ [c]) ((spl 10 l).drop (i + 1)) | none => ((0, 0, 0), [], (i : Int) + 1, 7)) := Lib.hid fun h => by
            have := hyok.out h
            rw [if_neg hzi2] at this
            exact this
          replace hzi2 := Lib.hid hzi2
          clear hyok
          have hch := Lib.hid (rchoice_any t hlen Y)
          go_upto_region 19 with (go_at_call 32; refine hch.out.mono ?_; rintro r w2 ⟨⟨c, e1, hr2⟩, hb2⟩; unfold Ch.val at e1; subst e1; replace hr2 := Lib.hid hr2)
          have hon2 := (hon.trans (Only.of_below (F := fun k => k = G) hb2) (fun i _ h => h)).alloc (.cells #[.int .i64 c.kind, .int .i64 c.client, .int .i64 c.ok, .int .i64 c.oa, .int .i64 c.on, .float .f64 c.bias] 45)
          have be := heap_alloc_new w2 (.cells #[.int .i64 c.kind, .int .i64 c.client, .int .i64 c.ok, .int .i64 c.oa, .int .i64 c.on, .float .f64 c.bias] 45)
          have hba := hb2.trans (((Below.refl w2.heap.size w2).alloc (Nat.le_refl _) (.cells #[.int .i64 c.kind, .int .i64 c.client, .int .i64 c.ok, .int .i64 c.oa, .int .i64 c.on, .float .f64 c.bias] 45)).mono hb2.size)
          generalize w2.alloc (.cells #[.int .i64 c.kind, .int .i64 c.client, .int .i64 c.ok, .int .i64 c.oa, .int .i64 c.on, .float .f64 c.bias] 45) = X at *
          obtain ⟨E, hE, hE'⟩ : ∃ E, Hid (E = w2.heap.size) ∧ E = w2.heap.size := ⟨_, Lib.hid rfl, rfl⟩
          simp only [← hE'] at be ⊢
          clear hE'
          have hgX := (hba.block G lgY).trans hg
          have bhX := (hba.block D lDY).trans bh
          have hownX : OwnC 45 Z.heap.size X u9 xs := hown.later hba
          have hXs := hon2.size
          clear hch hb2 hba hon hg bh hown x0 lgY lDY
          obtain ⟨f, hf⟩ : ∃ f, Hid (f = (ok0 && (lineO t).isSome)) := ⟨_, Lib.hid rfl⟩
          go_cut [11] (fun v11 wx => v11 = .bool f ∧ wx = X)
          case first =>
            generalize (lineO t).isSome = z at *
            cases ok0
            all_goals go_wp2_with fail
            all_goals go_meet
            all_goals exact ⟨by rw [hf.out]; rfl, rfl⟩
          case rest =>
            obtain ⟨rfl, hw⟩ := hcut
            obtain rfl := hw.symm
            have p0 : X.cell? ⟨E, 0, .none⟩ = some (.int .i64 c.kind) := rowCells be 0
            have p1 : X.cell? ⟨E, 1, .none⟩ = some (.int .i64 c.client) := rowCells be 1
            have p2 : X.cell? ⟨E, 2, .none⟩ = some (.int .i64 c.ok) := rowCells be 2
            have p3 : X.cell? ⟨E, 3, .none⟩ = some (.int .i64 c.oa) := rowCells be 3
            have p4 : X.cell? ⟨E, 4, .none⟩ = some (.int .i64 c.on) := rowCells be 4
            have p5 : X.cell? ⟨E, 5, .none⟩ = some (.float .f64 c.bias) := rowCells be 5
            have hfl : flatC xs ++ c.cells = flatC (xs ++ [c]) := by rw [flatC_append]; simp [flatC]
            replace hfl := Lib.hid hfl
            have lgX := (Array.getElem?_eq_some_iff.1 hgX).1
            have lDX := (Array.getElem?_eq_some_iff.1 bhX).1
            have hownA : ∀ o, (X.alloc o).ownsRow Z.heap.size 45 6 u9 xs.length (flatC xs) := fun o => OwnC.later hownX ((Below.refl X.heap.size X).alloc (Nat.le_refl _) o)
            have hsA : ∀ o, Z.heap.size ≤ (X.alloc o).heap.size := fun o => by simp; omega
            go_upto_region 21 with (refine wpList_append_rd rfl (.tmp 99) (.tmp 101) 22 rfl Z.heap.size 45 i0 zeroCh 6 48 Tryd.underlying22 hi0 hzz0 hzz1 hzz2 rfl (by omega) _ xs.length (flatC xs) rfl (hownA _) _ 1 c.cells rfl (RdS.new (cs := c.cells.toArray) (t := 45) (sz := 6) (n := 1) (heap_alloc_new X _) rfl (by omega)) (Ch.one _) (by simp only [maxLen]; omega) (by omega) (hsA _) ?_; intro v1 w3 hown2 hgrow2 hat2; have hon3 := (hon2.alloc (.cells c.cells.toArray 45)).grown hgrow2 (fun k hk => .inr ((hownA (.cells c.cells.toArray 45)).lt k hk).1); replace hat2 := Lib.hid hat2)
            have hnG : ¬ some G = Value.ownBlock u9 := fun e => by have := (hownX.lt G e.symm).1; omega
            have hnD : ¬ some D = Value.ownBlock u9 := fun e => by have := (hownX.lt D e.symm).1; omega
            have hg3 : w3.heap[G]? = some (.cells #[.int .i64 sa, .int .i64 sb, .int .i64 sc] 26 (0, 0)) := (hgrow2.block G (by simp; omega) hnG).trans ((Below.heap_alloc _ _ G lgX).trans hgX)
            have bh3 : w3.heap[D]? = some (.cells #[.int .i64 0, .int .i64 0, .int .i64 0] 26 (0, 0)) := (hgrow2.block D (by simp; omega) hnD).trans ((Below.heap_alloc _ _ D lDX).trans bhX)
            have hown3 : OwnC 45 Z.heap.size w3 v1 (xs ++ [c]) := by
              show w3.ownsRow _ _ 6 _ (xs ++ [c]).length _
              rw [← hfl.out, List.length_append]
              exact hown2
            clear hgrow2 hat2 hownA hsA hown2 hnG hnD p0 p1 p2 p3 p4 p5 be
            cases f with
            | false =>
              have hp7 : Hid (parseO l = ((0, 0, 0), [], (i : Int) + 1, 7)) := Lib.hid (by
                have hf' := hf.out
                cases ok0 with
                | false => exact hnok.out rfl
                | true =>
                  rw [hyok2.out rfl]
                  cases hlo : lineO t with
                  | none => rfl
                  | some c' => rw [hlo] at hf'; cases hf')
              have q0 : w3.cell? ⟨D, 0, .none⟩ = some (.int .i64 0) := rowCells bh3 0
              have q1 : w3.cell? ⟨D, 1, .none⟩ = some (.int .i64 0) := rowCells bh3 1
              have q2 : w3.cell? ⟨D, 2, .none⟩ = some (.int .i64 0) := rowCells bh3 2
              have qf := rowFree bh3
              have hbX := hOB.out w3 hon3
              clear hf hyok2 hnok hr2
              go_wp2_with fail
              refine bodyPost_ret (v := .tuple #[.agg #[.int .i64 0, .int .i64 0, .int .i64 0], .slice none 0 0, .int .i64 (i + 1), .int .i64 7]) (by simp [results, Tryd.results16, go_sem, q0, q1, q2]) rfl ⟨⟨.slice none 0 0, by rw [hp7.out], by rw [hp7.out]; exact (OwnC.nil 0 0 _).rd⟩, ?_⟩
              repeat (first | with_reducible refine Below.drew ?_ | with_reducible exact hbX | with_reducible refine Below.setCell ?_ hDw _)
            | true =>
              have hgo2 : Hid (parseO l = goO (i + 1) (sa, sb, sc) (xs ++ [c]) ((spl 10 l).drop (i + 1))) := Lib.hid (by
                have hf' := hf.out
                cases ok0 with
                | false => cases hf'
                | true =>
                  rw [hyok2.out rfl]
                  cases hlo : lineO t with
                  | none => rw [hlo] at hf'; cases hf'
                  | some c' => rw [hr2.out c' hlo])
              clear hf hyok2 hnok hr2
              go_wp2_with fail
              exact ⟨⟨i + 1, xs ++ [c], sa, sb, sc, by omega, by go_num, by simp; omega, hon3, hg3, hown3, hgo2.out⟩, by simp [intOf]; omega⟩
    · have hik : i = N := by omega
      subst hik
      have hdone : Hid (parseO l = ((sa, sb, sc), xs, 0, 0)) := Lib.hid (by rw [hgo.out, hNN.out]; exact go_done hspl.out (by have := hz.out; rw [← hNN.out]; omega))
      have q0 : Y.cell? ⟨D, 0, .none⟩ = some (.int .i64 0) := rowCells bh 0
      have q1 : Y.cell? ⟨D, 1, .none⟩ = some (.int .i64 0) := rowCells bh 1
      have q2 : Y.cell? ⟨D, 2, .none⟩ = some (.int .i64 0) := rowCells bh 2
      have qf := rowFree bh
      have g0 : Y.cell? ⟨G, 0, .none⟩ = some (.int .i64 sa) := rowCells hg 0
      have g1 : Y.cell? ⟨G, 1, .none⟩ = some (.int .i64 sb) := rowCells hg 1
      have g2 : Y.cell? ⟨G, 2, .none⟩ = some (.int .i64 sc) := rowCells hg 2
      have hj0 : ¬ ((i : Int) < (i : Int)) := by omega
      have hDZ : D < Z.heap.size := lD9
      have hrd : ∀ v0 v1 v2, RdC (((Y.setCell ⟨D, 0, .none⟩ v0).setCell ⟨D, 1, .none⟩ v1).setCell ⟨D, 2, .none⟩ v2) u9 xs := fun v0 v1 v2 => by
        refine OwnC.rd (E := 45) (B := Z.heap.size) (ownsRow_of_blocks hown fun k hk => ?_)
        have hkD : k ≠ D := by have := (hown.lt k hk).1; omega
        exact (Below.heap_setCell _ ⟨D, 2, .none⟩ _ k hkD).trans ((Below.heap_setCell _ ⟨D, 1, .none⟩ _ k hkD).trans (Below.heap_setCell _ ⟨D, 0, .none⟩ _ k hkD))
      replace hrd := Lib.hid hrd
      have hbX := hOB.out Y hon
      clear hgo hp0
      go_wp2_with fail
      refine bodyPost_ret (v := .tuple #[.agg #[.int .i64 sa, .int .i64 sb, .int .i64 sc], u9, .int .i64 0, .int .i64 0]) (by simp [results, Tryd.results16, go_sem, q0, q1, q2]) rfl ⟨⟨u9, by rw [hdone.out], by rw [hdone.out]; exact hrd.out _ _ _⟩, ?_⟩
      repeat (first | with_reducible refine Below.drew ?_ | with_reducible exact hbX | with_reducible refine Below.setCell ?_ hDw _)
end Go.Proofs.YtkeiehgojclecaaDoor
