/- The reference's choice; printed by rf_choice.py. -/
import Derived.Test.YtkeiehgojclecaaDoorRfK

import Derived.Test.YtkeiehgojclecaaDoorScrRt

namespace Go.Proofs.YtkeiehgojclecaaDoor

open Go.RowKit

attribute [local go_sem ↓] Go.wp_at_zero Go.wp_at_succ

attribute [local go_sem] run_store_float

theorem spl_single {c : UInt8} {b p : List UInt8} (h : spl c b = [p]) : p = b := by
  induction b generalizing p with
  | nil => simp [spl] at h; exact h
  | cons x b ih =>
    unfold spl at h
    split at h
    · injection h with _ h; exact absurd h (spl_ne c b)
    · cases hs : spl c b with
      | nil => exact absurd hs (spl_ne c b)
      | cons q qs =>
        rw [hs] at h
        injection h with h1 h2
        subst h2
        rw [← h1, ih hs]
theorem wordR_no {l : List UInt8} (h : (wordR l).2.2 = false) : (wordR l).2.1 = [] := by
  induction l with
  | nil => rfl
  | cons b l ih =>
    unfold wordR at h ⊢
    split at h
    · cases h
    · rename_i hb
      rw [if_neg hb]
      exact ih h
/-- What stands behind the first word. -/
def restR (l : List UInt8) : List (List UInt8) := if (wordR l).2.2 = true then spl 32 (wordR l).2.1 else []
theorem line_rest (l : List UInt8) : lineO l = wordsO (wordR l).1 (restR l) := by
  unfold lineO restR
  rw [spl_word]
theorem heap_rest (l : List UInt8) : heapO l = if (wordR l).1 = [104, 101, 97, 112] ∧ (restR l).length = 3 then (match numsO (restR l) with | some [a, b, c] => some (a, b, c) | _ => none) else none := by
  unfold heapO restR
  rw [spl_word]
  rfl
theorem nR_nil (k : Nat) : nR (k + 1) [] = none := by
  rw [nR_spl]
  have h : numO [] = none := by decide +kernel
  split
  · simp [spl, numsO, h]
  · rfl
theorem rest_nums (l : List UInt8) (k : Nat) : (if (restR l).length = k + 1 then numsO (restR l) else none) = nR (k + 1) (wordR l).2.1 := by
  unfold restR
  cases h : (wordR l).2.2 with
  | true => rw [if_pos rfl, nR_spl]
  | false => rw [wordR_no h, nR_nil]; simp
theorem rd_blank {b : List UInt8} {x : Nat} (h : rdO b = some x) : spl 32 b = [b] := by
  refine spl_none fun c hc => ?_
  rcases (rdO_iff b x).1 h with ⟨h1, _⟩ | ⟨h1, h2, h3⟩
  · rw [h1] at hc
    simp only [List.mem_cons, List.not_mem_nil, or_false] at hc
    rcases hc with rfl | rfl | rfl <;> decide
  · have : wrL x = b := by unfold wrL; rw [if_neg (by simp [h2]), h3]
    exact (ink_wr x c (by rw [this]; exact hc)).1
theorem start_rest (l : List UInt8) : startO (restR l) = if (wordR (wordR l).2.1).2.2 = true then (numO (wordR (wordR l).2.1).1).bind fun c => (rdO (wordR (wordR l).2.1).2.1).map fun x => ⟨1, c, 0, 0, 0, x⟩ else none := by
  unfold restR
  cases h : (wordR l).2.2 with
  | false => rw [wordR_no h]; rfl
  | true =>
    rw [if_pos rfl, spl_word]
    generalize wordR (wordR l).2.1 = W
    obtain ⟨a, b, q⟩ := W
    dsimp only
    cases q with
    | false => rfl
    | true =>
      rw [if_pos rfl, if_pos rfl]
      cases hr : rdO b with
      | some x => rw [rd_blank hr]; simp only [startO, hr]
      | none =>
        match hs : spl 32 b with
        | [] => simp [startO]
        | [p] => rw [spl_single hs]; simp [startO, hr]
        | _ :: _ :: _ => simp [startO]
theorem op_rest (l : List UInt8) (k : Int) (m : Nat) : opO k (m + 1) (restR l) = (nR (m + 1) (wordR l).2.1).map fun zs => opV k (zs.getD 0 0) (zs.getD 1 0) (zs.getD 2 0) := by
  rw [← rest_nums]
  unfold opO
  split <;> rfl
theorem one_rest (l : List UInt8) (k : Int) : oneO k (restR l) = (nR 1 (wordR l).2.1).map fun zs => ⟨k, zs.getD 0 0, 0, 0, 0, 0⟩ := by
  rw [← rest_nums]
  unfold oneO
  split <;> rfl
theorem nR_length {k : Nat} {l : List UInt8} {zs : List Int} (h : nR k l = some zs) : zs.length = k := by
  induction k generalizing l zs with
  | zero => simp [nR] at h; subst h; rfl
  | succ k ih =>
    rw [nR] at h
    split at h
    · obtain ⟨x, _, h2⟩ := Option.bind_eq_some_iff.1 h
      obtain ⟨ys, h3, rfl⟩ := Option.map_eq_some_iff.1 h2
      simp [ih h3]
    · cases h
/-- What the function tells of a line. -/
def LineAns (l : List UInt8) (e : Ending) : Prop := ∃ c : Ch, e = .returned (.tuple #[c.val, .bool (lineO l).isSome]) ∧ ∀ r, lineO l = some r → c = r
theorem LineAns.no {l : List UInt8} {c : Ch} (h : lineO l = none) : LineAns l (.returned (.tuple #[c.val, .bool false])) := ⟨c, by rw [h]; rfl, fun z hz => by rw [h] at hz; cases hz⟩
theorem LineAns.yes {l : List UInt8} {c : Ch} (h : lineO l = some c) : LineAns l (.returned (.tuple #[c.val, .bool true])) := ⟨c, by rw [h]; rfl, fun y hy => by rw [h] at hy; injection hy⟩
set_option maxRecDepth 100000 in
set_option maxHeartbeats 1000000 in
theorem rchoice_any (l : List UInt8) (hl : l.length < 1000000) (w : World) :
    Calls Tryd.prog 32 #[.string (S l)] w fun e w' => LineAns l e ∧ Below w.heap.size w w' := by
  have hb0 := (Below.refl w.heap.size w).alloc (Nat.le_refl _) (.cells #[.int .i64 0, .int .i64 0, .int .i64 0, .int .i64 0, .int .i64 0, .float .f64 0] 45)
  have bx := heap_alloc_new w (.cells #[.int .i64 0, .int .i64 0, .int .i64 0, .int .i64 0, .int .i64 0, .float .f64 0] 45)
  have hline := Lib.hid (line_rest l)
  have hstart := Lib.hid (start_rest l)
  have hops := Lib.hid (fun k m => op_rest l k m)
  have hones := Lib.hid (fun k => one_rest l k)
  have hwl := wordR_len l
  have hwd := Lib.hid (fun X => word_any l hl X)
  go_enter Tryd.func32, Tryd.ntmps32
  go_upto_region 1 with fail
  generalize w.alloc (.cells #[.int .i64 0, .int .i64 0, .int .i64 0, .int .i64 0, .int .i64 0, .float .f64 0] 45) = W at *
  obtain ⟨D, hD, hD'⟩ : ∃ D, Hid (D = w.heap.size) ∧ D = w.heap.size := ⟨_, Lib.hid rfl, rfl⟩
  simp only [← hD'] at bx ⊢
  have hDw : w.heap.size ≤ D := Nat.le_of_eq hD'.symm
  clear hD'
  generalize wordR l = W3 at *
  generalize restR l = R at *
  obtain ⟨A, T, more⟩ := W3
  dsimp only at hline hstart hops hones hwl hwd
  have hT : T.length < 1000000 := by omega
  go_upto_region 2 with (go_at_call 30; refine (hwd.out _).mono ?_; rintro r w1 ⟨rfl, hb1⟩)
  have hbw := hb0.trans (hb1.mono hb0.size)
  have bx1 := (hb1.block D (Array.getElem?_eq_some_iff.1 bx).1).trans bx
  have lh := (Array.getElem?_eq_some_iff.1 bx1).1
  have hQ := Lib.hid (fun X (hX : Below w1.heap.size w1 X) => (hX.block D lh).trans bx1)
  have hnm := Lib.hid (fun n hn => rnumbers_any T hT n hn w1)
  replace hwl := Lib.hid hwl
  clear hwd bx hb1 hb0 hl
  have q0 : w1.cell? ⟨D, 0, .none⟩ = some (.int .i64 0) := rowCells bx1 0
  have q1 : w1.cell? ⟨D, 1, .none⟩ = some (.int .i64 0) := rowCells bx1 1
  have q2 : w1.cell? ⟨D, 2, .none⟩ = some (.int .i64 0) := rowCells bx1 2
  have q3 : w1.cell? ⟨D, 3, .none⟩ = some (.int .i64 0) := rowCells bx1 3
  have q4 : w1.cell? ⟨D, 4, .none⟩ = some (.int .i64 0) := rowCells bx1 4
  have q5 : w1.cell? ⟨D, 5, .none⟩ = some (.float .f64 0) := rowCells bx1 5
  have qf := rowFree bx1
  by_cases hw0 : A = [115, 116, 97, 114, 116]
  · have hw := hw0
    have e0 : (A == [115, 116, 97, 114, 116]) = true := by rw [hw]; rfl
    have e1 : (A == [115, 116, 101, 112]) = false := by rw [hw]; rfl
    have e2 : (A == [107, 105, 108, 108]) = false := by rw [hw]; rfl
    have e3 : (A == [109, 97, 108, 108, 111, 99]) = false := by rw [hw]; rfl
    have e4 : (A == [102, 114, 101, 101]) = false := by rw [hw]; rfl
    have e5 : (A == [97, 100, 111, 112, 116]) = false := by rw [hw]; rfl
    have e6 : (A == [114, 101, 97, 108, 108, 111, 99]) = false := by rw [hw]; rfl
    clear hw0
    have hl2 : lineO l = if (wordR T).2.2 = true then (numO (wordR T).1).bind fun c => (rdO (wordR T).2.1).map fun x => ⟨1, c, 0, 0, 0, x⟩ else none := by rw [hline.out, hw]; exact hstart.out
    have hwl2 := wordR_len T
    have hwd2 := Lib.hid (word_any T hT w1)
    replace hl2 := Lib.hid hl2
    replace hw := Lib.hid hw
    clear hline hstart hops hones hnm
    generalize wordR T = W4 at *
    obtain ⟨a, b, q⟩ := W4
    dsimp only at hl2 hwl2 hwd2
    have ha : a.length < 1000000 := by omega
    have hb : b.length < 1000000 := by omega
    replace hwl2 := Lib.hid hwl2
    go_upto_region 6 with (first
      | (go_at_call 30; refine hwd2.out.mono ?_; rintro r w2 ⟨rfl, hb2⟩; replace hb2 := Lib.hid hb2)
      | (go_at_call 44; refine (readNumber_any a ha _).mono ?_; rintro r w3 ⟨⟨x, rfl, hx⟩, hw3⟩; obtain rfl := hw3.symm; replace hx := Lib.hid hx)
      | (go_at_call 45; refine (readBias_any b hb _).mono ?_; rintro r w4 ⟨⟨y, rfl, hy⟩, hw4⟩; obtain rfl := hw4.symm; replace hy := Lib.hid hy) | fail)
    have hbw2 := hbw.trans (hb2.out.mono hbw.size)
    have bx2 := hQ.out w2 hb2.out
    clear q0 q1 q2 q3 q4 q5 qf hwd2
    have k0 : w2.cell? ⟨D, 0, .none⟩ = some (.int .i64 0) := rowCells bx2 0
    have k1 : w2.cell? ⟨D, 1, .none⟩ = some (.int .i64 0) := rowCells bx2 1
    have k2 : w2.cell? ⟨D, 2, .none⟩ = some (.int .i64 0) := rowCells bx2 2
    have k3 : w2.cell? ⟨D, 3, .none⟩ = some (.int .i64 0) := rowCells bx2 3
    have k4 : w2.cell? ⟨D, 4, .none⟩ = some (.int .i64 0) := rowCells bx2 4
    have k5 : w2.cell? ⟨D, 5, .none⟩ = some (.float .f64 0) := rowCells bx2 5
    have kf := rowFree bx2
    cases hna : numO a with
    | none =>
      have hl3 : Hid (lineO l = none) := Lib.hid (by rw [hl2.out, hna]; cases q <;> rfl)
      clear hl2 hx hy
      go_wp2_with fail
      refine bodyPost_ret (v := .tuple #[Ch.val ⟨1, x, 0, 0, 0, y⟩, .bool false]) (by simp [results, Tryd.results32, go_sem, Ch.val, k0, k1, k2, k3, k4, k5]) rfl ⟨LineAns.no hl3.out, ?_⟩
      repeat (first | with_reducible exact hbw2 | with_reducible refine Below.setCell ?_ hDw _)
    | some x2 =>
      obtain rfl := hx.out x2 hna
      cases hnb : rdO b with
      | none =>
        have hl3 : Hid (lineO l = none) := Lib.hid (by rw [hl2.out, hna, hnb]; cases q <;> rfl)
        clear hl2 hx hy
        go_wp2_with fail
        refine bodyPost_ret (v := .tuple #[Ch.val ⟨1, x, 0, 0, 0, y⟩, .bool false]) (by simp [results, Tryd.results32, go_sem, Ch.val, k0, k1, k2, k3, k4, k5]) rfl ⟨LineAns.no hl3.out, ?_⟩
        repeat (first | with_reducible exact hbw2 | with_reducible refine Below.setCell ?_ hDw _)
      | some y2 =>
        obtain rfl := hy.out y2 hnb
        cases q with
        | false =>
          have hl3 : Hid (lineO l = none) := Lib.hid (by rw [hl2.out]; rfl)
          clear hl2 hx hy
          go_wp2_with fail
          refine bodyPost_ret (v := .tuple #[Ch.val ⟨1, x, 0, 0, 0, y⟩, .bool false]) (by simp [results, Tryd.results32, go_sem, Ch.val, k0, k1, k2, k3, k4, k5]) rfl ⟨LineAns.no hl3.out, ?_⟩
          repeat (first | with_reducible exact hbw2 | with_reducible refine Below.setCell ?_ hDw _)
        | true =>
          have hl3 : Hid (lineO l = some ⟨1, x, 0, 0, 0, y⟩) := Lib.hid (by rw [hl2.out, hna, hnb]; rfl)
          clear hl2 hx hy
          go_wp2_with fail
          refine bodyPost_ret (v := .tuple #[Ch.val ⟨1, x, 0, 0, 0, y⟩, .bool true]) (by simp [results, Tryd.results32, go_sem, Ch.val, k0, k1, k2, k3, k4, k5]) rfl ⟨LineAns.yes hl3.out, ?_⟩
          repeat (first | with_reducible exact hbw2 | with_reducible refine Below.setCell ?_ hDw _)
  · skip
    by_cases hw1 : A = [115, 116, 101, 112]
    · have hw := hw1
      have e0 : (A == [115, 116, 97, 114, 116]) = false := by rw [hw]; rfl
      have e1 : (A == [115, 116, 101, 112]) = true := by rw [hw]; rfl
      have e2 : (A == [107, 105, 108, 108]) = false := by rw [hw]; rfl
      have e3 : (A == [109, 97, 108, 108, 111, 99]) = false := by rw [hw]; rfl
      have e4 : (A == [102, 114, 101, 101]) = false := by rw [hw]; rfl
      have e5 : (A == [97, 100, 111, 112, 116]) = false := by rw [hw]; rfl
      have e6 : (A == [114, 101, 97, 108, 108, 111, 99]) = false := by rw [hw]; rfl
      clear hw0 hw1
      have hl2 : lineO l = (nR 1 T).map fun zs => ⟨3, zs.getD 0 0, 0, 0, 0, 0⟩ := by rw [hline.out, hw, ← hones.out]; rfl
      replace hl2 := Lib.hid hl2
      have hn2 := Lib.hid (hnm.out 1 (by decide))
      replace hw := Lib.hid hw
      clear hline hstart hops hones hnm
      go_upto_region 19 with (go_at_call 31; refine hn2.out.mono ?_; rintro r w2 ⟨⟨v', rfl, hvs⟩, hb2⟩; replace hvs := Lib.hid hvs)
      have hbw2 := hbw.trans (hb2.mono hbw.size)
      have bx2 := hQ.out w2 hb2
      clear q0 q1 q2 q3 q4 q5 qf hn2
      have k0 : w2.cell? ⟨D, 0, .none⟩ = some (.int .i64 0) := rowCells bx2 0
      have k1 : w2.cell? ⟨D, 1, .none⟩ = some (.int .i64 0) := rowCells bx2 1
      have k2 : w2.cell? ⟨D, 2, .none⟩ = some (.int .i64 0) := rowCells bx2 2
      have k3 : w2.cell? ⟨D, 3, .none⟩ = some (.int .i64 0) := rowCells bx2 3
      have k4 : w2.cell? ⟨D, 4, .none⟩ = some (.int .i64 0) := rowCells bx2 4
      have k5 : w2.cell? ⟨D, 5, .none⟩ = some (.float .f64 0) := rowCells bx2 5
      have kf := rowFree bx2
      cases hnr : nR 1 T with
      | none =>
        have hl3 : Hid (lineO l = none) := Lib.hid (by rw [hl2.out, hnr]; rfl)
        clear hvs hl2 hnr
        go_wp2_with fail
        refine bodyPost_ret (v := .tuple #[Ch.val ⟨0, 0, 0, 0, 0, 0⟩, .bool false]) (by simp [results, Tryd.results32, go_sem, Ch.val, k0, k1, k2, k3, k4, k5]) rfl ⟨LineAns.no hl3.out, ?_⟩
        repeat (first | with_reducible refine Below.drew ?_ | with_reducible exact hbw2 | with_reducible refine Below.setCell ?_ (by first | exact hDw | exact hEw) _)
      | some zs =>
        have hrz := hvs.out zs hnr
        have hzl := nR_length hnr
        obtain ⟨c, rfl⟩ : ∃ c, zs = [c] := by
          match zs, hzl with
          | [c], _ => exact ⟨c, rfl⟩
        have hl3 : Hid (lineO l = some ⟨3, c, 0, 0, 0, 0⟩) := Lib.hid (by rw [hl2.out, hnr]; rfl)
        clear hvs hl2 hnr hzl
        obtain ⟨ao, cap, rfl, hcap, hcap2, hcc1⟩ := hrz.cells
        obtain ⟨d, off, rfl, hdd, hcc⟩ := hcc1 (by simp)
        have z0 : w2.cell? ⟨d, off, .none⟩ = some (.int .i64 c) := hcc 0 (by simp)
        simp only [List.length_cons, List.length_nil] at hcap ⊢
        clear hcc hcc1 hrz hcap2
        go_upto_region 22 with fail
        have be := heap_alloc_new w2 (.cells #[.int .i64 2, .int .i64 c, .int .i64 0, .int .i64 0, .int .i64 0, .float .f64 0] 45)
        have hbe := (Below.refl w2.heap.size w2).alloc (Nat.le_refl _) (.cells #[.int .i64 2, .int .i64 c, .int .i64 0, .int .i64 0, .int .i64 0, .float .f64 0] 45)
        generalize w2.alloc (.cells #[.int .i64 2, .int .i64 c, .int .i64 0, .int .i64 0, .int .i64 0, .float .f64 0] 45) = V at *
        obtain ⟨E, hE, hE'⟩ : ∃ E, Hid (E = w2.heap.size) ∧ E = w2.heap.size := ⟨_, Lib.hid rfl, rfl⟩
        simp only [← hE'] at be ⊢
        have hEw : w.heap.size ≤ E := by have := hbw2.size; omega
        have lD2 := (Array.getElem?_eq_some_iff.1 bx2).1
        have hDE : D ≠ E := by omega
        have hDE2 : E ≠ D := by omega
        have hdE : d ≠ E := by omega
        clear hE'
        replace z0 := (hbe.cell (p := ⟨d, off, .none⟩) hdd).trans z0
        have bx3 := (hbe.block D lD2).trans bx2
        have hbV := hbw2.trans (hbe.mono hbw2.size)
        clear k0 k1 k2 k3 k4 k5 kf
        have k0 : V.cell? ⟨D, 0, .none⟩ = some (.int .i64 0) := rowCells bx3 0
        have k1 : V.cell? ⟨D, 1, .none⟩ = some (.int .i64 0) := rowCells bx3 1
        have k2 : V.cell? ⟨D, 2, .none⟩ = some (.int .i64 0) := rowCells bx3 2
        have k3 : V.cell? ⟨D, 3, .none⟩ = some (.int .i64 0) := rowCells bx3 3
        have k4 : V.cell? ⟨D, 4, .none⟩ = some (.int .i64 0) := rowCells bx3 4
        have k5 : V.cell? ⟨D, 5, .none⟩ = some (.float .f64 0) := rowCells bx3 5
        have kf := rowFree bx3
        have g0 : V.cell? ⟨E, 0, .none⟩ = some (.int .i64 2) := rowCells be 0
        have g1 : V.cell? ⟨E, 1, .none⟩ = some (.int .i64 c) := rowCells be 1
        have g2 : V.cell? ⟨E, 2, .none⟩ = some (.int .i64 0) := rowCells be 2
        have g3 : V.cell? ⟨E, 3, .none⟩ = some (.int .i64 0) := rowCells be 3
        have g4 : V.cell? ⟨E, 4, .none⟩ = some (.int .i64 0) := rowCells be 4
        have g5 : V.cell? ⟨E, 5, .none⟩ = some (.float .f64 0) := rowCells be 5
        have gf := rowFree be
        clear bx3 bx2 be hbe hbw2 hb2 hbw bx1 lD2
        go_wp2_with fail
        refine bodyPost_ret (v := .tuple #[Ch.val ⟨3, c, 0, 0, 0, 0⟩, .bool true]) (by simp [results, Tryd.results32, go_sem, Ch.val, k0, k1, k2, k3, k4, k5]) rfl ⟨LineAns.yes hl3.out, ?_⟩
        repeat (first | with_reducible refine Below.drew ?_ | with_reducible exact hbV | with_reducible refine Below.setCell ?_ (by first | exact hDw | exact hEw) _)
    · skip
      by_cases hw2 : A = [107, 105, 108, 108]
      · have hw := hw2
        have e0 : (A == [115, 116, 97, 114, 116]) = false := by rw [hw]; rfl
        have e1 : (A == [115, 116, 101, 112]) = false := by rw [hw]; rfl
        have e2 : (A == [107, 105, 108, 108]) = true := by rw [hw]; rfl
        have e3 : (A == [109, 97, 108, 108, 111, 99]) = false := by rw [hw]; rfl
        have e4 : (A == [102, 114, 101, 101]) = false := by rw [hw]; rfl
        have e5 : (A == [97, 100, 111, 112, 116]) = false := by rw [hw]; rfl
        have e6 : (A == [114, 101, 97, 108, 108, 111, 99]) = false := by rw [hw]; rfl
        clear hw0 hw1 hw2
        have hl2 : lineO l = (nR 1 T).map fun zs => ⟨4, zs.getD 0 0, 0, 0, 0, 0⟩ := by rw [hline.out, hw, ← hones.out]; rfl
        replace hl2 := Lib.hid hl2
        have hn2 := Lib.hid (hnm.out 1 (by decide))
        replace hw := Lib.hid hw
        clear hline hstart hops hones hnm
        go_upto_region 19 with (go_at_call 31; refine hn2.out.mono ?_; rintro r w2 ⟨⟨v', rfl, hvs⟩, hb2⟩; replace hvs := Lib.hid hvs)
        have hbw2 := hbw.trans (hb2.mono hbw.size)
        have bx2 := hQ.out w2 hb2
        clear q0 q1 q2 q3 q4 q5 qf hn2
        have k0 : w2.cell? ⟨D, 0, .none⟩ = some (.int .i64 0) := rowCells bx2 0
        have k1 : w2.cell? ⟨D, 1, .none⟩ = some (.int .i64 0) := rowCells bx2 1
        have k2 : w2.cell? ⟨D, 2, .none⟩ = some (.int .i64 0) := rowCells bx2 2
        have k3 : w2.cell? ⟨D, 3, .none⟩ = some (.int .i64 0) := rowCells bx2 3
        have k4 : w2.cell? ⟨D, 4, .none⟩ = some (.int .i64 0) := rowCells bx2 4
        have k5 : w2.cell? ⟨D, 5, .none⟩ = some (.float .f64 0) := rowCells bx2 5
        have kf := rowFree bx2
        cases hnr : nR 1 T with
        | none =>
          have hl3 : Hid (lineO l = none) := Lib.hid (by rw [hl2.out, hnr]; rfl)
          clear hvs hl2 hnr
          go_wp2_with fail
          refine bodyPost_ret (v := .tuple #[Ch.val ⟨0, 0, 0, 0, 0, 0⟩, .bool false]) (by simp [results, Tryd.results32, go_sem, Ch.val, k0, k1, k2, k3, k4, k5]) rfl ⟨LineAns.no hl3.out, ?_⟩
          repeat (first | with_reducible refine Below.drew ?_ | with_reducible exact hbw2 | with_reducible refine Below.setCell ?_ (by first | exact hDw | exact hEw) _)
        | some zs =>
          have hrz := hvs.out zs hnr
          have hzl := nR_length hnr
          obtain ⟨c, rfl⟩ : ∃ c, zs = [c] := by
            match zs, hzl with
            | [c], _ => exact ⟨c, rfl⟩
          have hl3 : Hid (lineO l = some ⟨4, c, 0, 0, 0, 0⟩) := Lib.hid (by rw [hl2.out, hnr]; rfl)
          clear hvs hl2 hnr hzl
          obtain ⟨ao, cap, rfl, hcap, hcap2, hcc1⟩ := hrz.cells
          obtain ⟨d, off, rfl, hdd, hcc⟩ := hcc1 (by simp)
          have z0 : w2.cell? ⟨d, off, .none⟩ = some (.int .i64 c) := hcc 0 (by simp)
          simp only [List.length_cons, List.length_nil] at hcap ⊢
          clear hcc hcc1 hrz hcap2
          go_upto_region 22 with fail
          have be := heap_alloc_new w2 (.cells #[.int .i64 2, .int .i64 c, .int .i64 0, .int .i64 0, .int .i64 0, .float .f64 0] 45)
          have hbe := (Below.refl w2.heap.size w2).alloc (Nat.le_refl _) (.cells #[.int .i64 2, .int .i64 c, .int .i64 0, .int .i64 0, .int .i64 0, .float .f64 0] 45)
          generalize w2.alloc (.cells #[.int .i64 2, .int .i64 c, .int .i64 0, .int .i64 0, .int .i64 0, .float .f64 0] 45) = V at *
          obtain ⟨E, hE, hE'⟩ : ∃ E, Hid (E = w2.heap.size) ∧ E = w2.heap.size := ⟨_, Lib.hid rfl, rfl⟩
          simp only [← hE'] at be ⊢
          have hEw : w.heap.size ≤ E := by have := hbw2.size; omega
          have lD2 := (Array.getElem?_eq_some_iff.1 bx2).1
          have hDE : D ≠ E := by omega
          have hDE2 : E ≠ D := by omega
          have hdE : d ≠ E := by omega
          clear hE'
          replace z0 := (hbe.cell (p := ⟨d, off, .none⟩) hdd).trans z0
          have bx3 := (hbe.block D lD2).trans bx2
          have hbV := hbw2.trans (hbe.mono hbw2.size)
          clear k0 k1 k2 k3 k4 k5 kf
          have k0 : V.cell? ⟨D, 0, .none⟩ = some (.int .i64 0) := rowCells bx3 0
          have k1 : V.cell? ⟨D, 1, .none⟩ = some (.int .i64 0) := rowCells bx3 1
          have k2 : V.cell? ⟨D, 2, .none⟩ = some (.int .i64 0) := rowCells bx3 2
          have k3 : V.cell? ⟨D, 3, .none⟩ = some (.int .i64 0) := rowCells bx3 3
          have k4 : V.cell? ⟨D, 4, .none⟩ = some (.int .i64 0) := rowCells bx3 4
          have k5 : V.cell? ⟨D, 5, .none⟩ = some (.float .f64 0) := rowCells bx3 5
          have kf := rowFree bx3
          have g0 : V.cell? ⟨E, 0, .none⟩ = some (.int .i64 2) := rowCells be 0
          have g1 : V.cell? ⟨E, 1, .none⟩ = some (.int .i64 c) := rowCells be 1
          have g2 : V.cell? ⟨E, 2, .none⟩ = some (.int .i64 0) := rowCells be 2
          have g3 : V.cell? ⟨E, 3, .none⟩ = some (.int .i64 0) := rowCells be 3
          have g4 : V.cell? ⟨E, 4, .none⟩ = some (.int .i64 0) := rowCells be 4
          have g5 : V.cell? ⟨E, 5, .none⟩ = some (.float .f64 0) := rowCells be 5
          have gf := rowFree be
          clear bx3 bx2 be hbe hbw2 hb2 hbw bx1 lD2
          go_wp2_with fail
          refine bodyPost_ret (v := .tuple #[Ch.val ⟨4, c, 0, 0, 0, 0⟩, .bool true]) (by simp [results, Tryd.results32, go_sem, Ch.val, k0, k1, k2, k3, k4, k5]) rfl ⟨LineAns.yes hl3.out, ?_⟩
          repeat (first | with_reducible refine Below.drew ?_ | with_reducible exact hbV | with_reducible refine Below.setCell ?_ (by first | exact hDw | exact hEw) _)
      · skip
        by_cases hw3 : A = [109, 97, 108, 108, 111, 99]
        · have hw := hw3
          have e0 : (A == [115, 116, 97, 114, 116]) = false := by rw [hw]; rfl
          have e1 : (A == [115, 116, 101, 112]) = false := by rw [hw]; rfl
          have e2 : (A == [107, 105, 108, 108]) = false := by rw [hw]; rfl
          have e3 : (A == [109, 97, 108, 108, 111, 99]) = true := by rw [hw]; rfl
          have e4 : (A == [102, 114, 101, 101]) = false := by rw [hw]; rfl
          have e5 : (A == [97, 100, 111, 112, 116]) = false := by rw [hw]; rfl
          have e6 : (A == [114, 101, 97, 108, 108, 111, 99]) = false := by rw [hw]; rfl
          clear hw0 hw1 hw2 hw3
          have hl2 : lineO l = (nR 2 T).map fun zs => opV 1 (zs.getD 0 0) (zs.getD 1 0) (zs.getD 2 0) := by rw [hline.out, hw, ← hops.out]; rfl
          replace hl2 := Lib.hid hl2
          have hn2 := Lib.hid (hnm.out 2 (by decide))
          replace hw := Lib.hid hw
          clear hline hstart hops hones hnm
          go_upto_region 19 with (go_at_call 31; refine hn2.out.mono ?_; rintro r w2 ⟨⟨v', rfl, hvs⟩, hb2⟩; replace hvs := Lib.hid hvs)
          have hbw2 := hbw.trans (hb2.mono hbw.size)
          have bx2 := hQ.out w2 hb2
          clear q0 q1 q2 q3 q4 q5 qf hn2
          have k0 : w2.cell? ⟨D, 0, .none⟩ = some (.int .i64 0) := rowCells bx2 0
          have k1 : w2.cell? ⟨D, 1, .none⟩ = some (.int .i64 0) := rowCells bx2 1
          have k2 : w2.cell? ⟨D, 2, .none⟩ = some (.int .i64 0) := rowCells bx2 2
          have k3 : w2.cell? ⟨D, 3, .none⟩ = some (.int .i64 0) := rowCells bx2 3
          have k4 : w2.cell? ⟨D, 4, .none⟩ = some (.int .i64 0) := rowCells bx2 4
          have k5 : w2.cell? ⟨D, 5, .none⟩ = some (.float .f64 0) := rowCells bx2 5
          have kf := rowFree bx2
          cases hnr : nR 2 T with
          | none =>
            have hl3 : Hid (lineO l = none) := Lib.hid (by rw [hl2.out, hnr]; rfl)
            clear hvs hl2 hnr
            go_wp2_with fail
            refine bodyPost_ret (v := .tuple #[Ch.val ⟨0, 0, 0, 0, 0, 0⟩, .bool false]) (by simp [results, Tryd.results32, go_sem, Ch.val, k0, k1, k2, k3, k4, k5]) rfl ⟨LineAns.no hl3.out, ?_⟩
            repeat (first | with_reducible refine Below.drew ?_ | with_reducible exact hbw2 | with_reducible refine Below.setCell ?_ (by first | exact hDw | exact hEw) _)
          | some zs =>
            have hrz := hvs.out zs hnr
            have hzl := nR_length hnr
            obtain ⟨c, x, rfl⟩ : ∃ c x, zs = [c, x] := by
              match zs, hzl with
              | [c, x], _ => exact ⟨c, x, rfl⟩
            have hl3 : Hid (lineO l = some ⟨2, c, 1, 0, x, 0⟩) := Lib.hid (by rw [hl2.out, hnr]; rfl)
            clear hvs hl2 hnr hzl
            obtain ⟨ao, cap, rfl, hcap, hcap2, hcc1⟩ := hrz.cells
            obtain ⟨d, off, rfl, hdd, hcc⟩ := hcc1 (by simp)
            have z0 : w2.cell? ⟨d, off, .none⟩ = some (.int .i64 c) := hcc 0 (by simp)
            have z1 : w2.cell? ⟨d, off + 1, .none⟩ = some (.int .i64 x) := hcc 1 (by simp)
            simp only [List.length_cons, List.length_nil] at hcap ⊢
            clear hcc hcc1 hrz hcap2
            go_upto_region 22 with fail
            have be := heap_alloc_new w2 (.cells #[.int .i64 2, .int .i64 c, .int .i64 0, .int .i64 0, .int .i64 0, .float .f64 0] 45)
            have hbe := (Below.refl w2.heap.size w2).alloc (Nat.le_refl _) (.cells #[.int .i64 2, .int .i64 c, .int .i64 0, .int .i64 0, .int .i64 0, .float .f64 0] 45)
            generalize w2.alloc (.cells #[.int .i64 2, .int .i64 c, .int .i64 0, .int .i64 0, .int .i64 0, .float .f64 0] 45) = V at *
            obtain ⟨E, hE, hE'⟩ : ∃ E, Hid (E = w2.heap.size) ∧ E = w2.heap.size := ⟨_, Lib.hid rfl, rfl⟩
            simp only [← hE'] at be ⊢
            have hEw : w.heap.size ≤ E := by have := hbw2.size; omega
            have lD2 := (Array.getElem?_eq_some_iff.1 bx2).1
            have hDE : D ≠ E := by omega
            have hDE2 : E ≠ D := by omega
            have hdE : d ≠ E := by omega
            clear hE'
            replace z0 := (hbe.cell (p := ⟨d, off, .none⟩) hdd).trans z0
            replace z1 := (hbe.cell (p := ⟨d, off + 1, .none⟩) hdd).trans z1
            have bx3 := (hbe.block D lD2).trans bx2
            have hbV := hbw2.trans (hbe.mono hbw2.size)
            clear k0 k1 k2 k3 k4 k5 kf
            have k0 : V.cell? ⟨D, 0, .none⟩ = some (.int .i64 0) := rowCells bx3 0
            have k1 : V.cell? ⟨D, 1, .none⟩ = some (.int .i64 0) := rowCells bx3 1
            have k2 : V.cell? ⟨D, 2, .none⟩ = some (.int .i64 0) := rowCells bx3 2
            have k3 : V.cell? ⟨D, 3, .none⟩ = some (.int .i64 0) := rowCells bx3 3
            have k4 : V.cell? ⟨D, 4, .none⟩ = some (.int .i64 0) := rowCells bx3 4
            have k5 : V.cell? ⟨D, 5, .none⟩ = some (.float .f64 0) := rowCells bx3 5
            have kf := rowFree bx3
            have g0 : V.cell? ⟨E, 0, .none⟩ = some (.int .i64 2) := rowCells be 0
            have g1 : V.cell? ⟨E, 1, .none⟩ = some (.int .i64 c) := rowCells be 1
            have g2 : V.cell? ⟨E, 2, .none⟩ = some (.int .i64 0) := rowCells be 2
            have g3 : V.cell? ⟨E, 3, .none⟩ = some (.int .i64 0) := rowCells be 3
            have g4 : V.cell? ⟨E, 4, .none⟩ = some (.int .i64 0) := rowCells be 4
            have g5 : V.cell? ⟨E, 5, .none⟩ = some (.float .f64 0) := rowCells be 5
            have gf := rowFree be
            clear bx3 bx2 be hbe hbw2 hb2 hbw bx1 lD2
            go_wp2_with fail
            refine bodyPost_ret (v := .tuple #[Ch.val ⟨2, c, 1, 0, x, 0⟩, .bool true]) (by simp [results, Tryd.results32, go_sem, Ch.val, k0, k1, k2, k3, k4, k5]) rfl ⟨LineAns.yes hl3.out, ?_⟩
            repeat (first | with_reducible refine Below.drew ?_ | with_reducible exact hbV | with_reducible refine Below.setCell ?_ (by first | exact hDw | exact hEw) _)
        · skip
          by_cases hw4 : A = [102, 114, 101, 101]
          · have hw := hw4
            have e0 : (A == [115, 116, 97, 114, 116]) = false := by rw [hw]; rfl
            have e1 : (A == [115, 116, 101, 112]) = false := by rw [hw]; rfl
            have e2 : (A == [107, 105, 108, 108]) = false := by rw [hw]; rfl
            have e3 : (A == [109, 97, 108, 108, 111, 99]) = false := by rw [hw]; rfl
            have e4 : (A == [102, 114, 101, 101]) = true := by rw [hw]; rfl
            have e5 : (A == [97, 100, 111, 112, 116]) = false := by rw [hw]; rfl
            have e6 : (A == [114, 101, 97, 108, 108, 111, 99]) = false := by rw [hw]; rfl
            clear hw0 hw1 hw2 hw3 hw4
            have hl2 : lineO l = (nR 2 T).map fun zs => opV 2 (zs.getD 0 0) (zs.getD 1 0) (zs.getD 2 0) := by rw [hline.out, hw, ← hops.out]; rfl
            replace hl2 := Lib.hid hl2
            have hn2 := Lib.hid (hnm.out 2 (by decide))
            replace hw := Lib.hid hw
            clear hline hstart hops hones hnm
            go_upto_region 19 with (go_at_call 31; refine hn2.out.mono ?_; rintro r w2 ⟨⟨v', rfl, hvs⟩, hb2⟩; replace hvs := Lib.hid hvs)
            have hbw2 := hbw.trans (hb2.mono hbw.size)
            have bx2 := hQ.out w2 hb2
            clear q0 q1 q2 q3 q4 q5 qf hn2
            have k0 : w2.cell? ⟨D, 0, .none⟩ = some (.int .i64 0) := rowCells bx2 0
            have k1 : w2.cell? ⟨D, 1, .none⟩ = some (.int .i64 0) := rowCells bx2 1
            have k2 : w2.cell? ⟨D, 2, .none⟩ = some (.int .i64 0) := rowCells bx2 2
            have k3 : w2.cell? ⟨D, 3, .none⟩ = some (.int .i64 0) := rowCells bx2 3
            have k4 : w2.cell? ⟨D, 4, .none⟩ = some (.int .i64 0) := rowCells bx2 4
            have k5 : w2.cell? ⟨D, 5, .none⟩ = some (.float .f64 0) := rowCells bx2 5
            have kf := rowFree bx2
            cases hnr : nR 2 T with
            | none =>
              have hl3 : Hid (lineO l = none) := Lib.hid (by rw [hl2.out, hnr]; rfl)
              clear hvs hl2 hnr
              go_wp2_with fail
              refine bodyPost_ret (v := .tuple #[Ch.val ⟨0, 0, 0, 0, 0, 0⟩, .bool false]) (by simp [results, Tryd.results32, go_sem, Ch.val, k0, k1, k2, k3, k4, k5]) rfl ⟨LineAns.no hl3.out, ?_⟩
              repeat (first | with_reducible refine Below.drew ?_ | with_reducible exact hbw2 | with_reducible refine Below.setCell ?_ (by first | exact hDw | exact hEw) _)
            | some zs =>
              have hrz := hvs.out zs hnr
              have hzl := nR_length hnr
              obtain ⟨c, x, rfl⟩ : ∃ c x, zs = [c, x] := by
                match zs, hzl with
                | [c, x], _ => exact ⟨c, x, rfl⟩
              have hl3 : Hid (lineO l = some ⟨2, c, 2, x, 0, 0⟩) := Lib.hid (by rw [hl2.out, hnr]; rfl)
              clear hvs hl2 hnr hzl
              obtain ⟨ao, cap, rfl, hcap, hcap2, hcc1⟩ := hrz.cells
              obtain ⟨d, off, rfl, hdd, hcc⟩ := hcc1 (by simp)
              have z0 : w2.cell? ⟨d, off, .none⟩ = some (.int .i64 c) := hcc 0 (by simp)
              have z1 : w2.cell? ⟨d, off + 1, .none⟩ = some (.int .i64 x) := hcc 1 (by simp)
              simp only [List.length_cons, List.length_nil] at hcap ⊢
              clear hcc hcc1 hrz hcap2
              go_upto_region 22 with fail
              have be := heap_alloc_new w2 (.cells #[.int .i64 2, .int .i64 c, .int .i64 0, .int .i64 0, .int .i64 0, .float .f64 0] 45)
              have hbe := (Below.refl w2.heap.size w2).alloc (Nat.le_refl _) (.cells #[.int .i64 2, .int .i64 c, .int .i64 0, .int .i64 0, .int .i64 0, .float .f64 0] 45)
              generalize w2.alloc (.cells #[.int .i64 2, .int .i64 c, .int .i64 0, .int .i64 0, .int .i64 0, .float .f64 0] 45) = V at *
              obtain ⟨E, hE, hE'⟩ : ∃ E, Hid (E = w2.heap.size) ∧ E = w2.heap.size := ⟨_, Lib.hid rfl, rfl⟩
              simp only [← hE'] at be ⊢
              have hEw : w.heap.size ≤ E := by have := hbw2.size; omega
              have lD2 := (Array.getElem?_eq_some_iff.1 bx2).1
              have hDE : D ≠ E := by omega
              have hDE2 : E ≠ D := by omega
              have hdE : d ≠ E := by omega
              clear hE'
              replace z0 := (hbe.cell (p := ⟨d, off, .none⟩) hdd).trans z0
              replace z1 := (hbe.cell (p := ⟨d, off + 1, .none⟩) hdd).trans z1
              have bx3 := (hbe.block D lD2).trans bx2
              have hbV := hbw2.trans (hbe.mono hbw2.size)
              clear k0 k1 k2 k3 k4 k5 kf
              have k0 : V.cell? ⟨D, 0, .none⟩ = some (.int .i64 0) := rowCells bx3 0
              have k1 : V.cell? ⟨D, 1, .none⟩ = some (.int .i64 0) := rowCells bx3 1
              have k2 : V.cell? ⟨D, 2, .none⟩ = some (.int .i64 0) := rowCells bx3 2
              have k3 : V.cell? ⟨D, 3, .none⟩ = some (.int .i64 0) := rowCells bx3 3
              have k4 : V.cell? ⟨D, 4, .none⟩ = some (.int .i64 0) := rowCells bx3 4
              have k5 : V.cell? ⟨D, 5, .none⟩ = some (.float .f64 0) := rowCells bx3 5
              have kf := rowFree bx3
              have g0 : V.cell? ⟨E, 0, .none⟩ = some (.int .i64 2) := rowCells be 0
              have g1 : V.cell? ⟨E, 1, .none⟩ = some (.int .i64 c) := rowCells be 1
              have g2 : V.cell? ⟨E, 2, .none⟩ = some (.int .i64 0) := rowCells be 2
              have g3 : V.cell? ⟨E, 3, .none⟩ = some (.int .i64 0) := rowCells be 3
              have g4 : V.cell? ⟨E, 4, .none⟩ = some (.int .i64 0) := rowCells be 4
              have g5 : V.cell? ⟨E, 5, .none⟩ = some (.float .f64 0) := rowCells be 5
              have gf := rowFree be
              clear bx3 bx2 be hbe hbw2 hb2 hbw bx1 lD2
              go_wp2_with fail
              refine bodyPost_ret (v := .tuple #[Ch.val ⟨2, c, 2, x, 0, 0⟩, .bool true]) (by simp [results, Tryd.results32, go_sem, Ch.val, k0, k1, k2, k3, k4, k5]) rfl ⟨LineAns.yes hl3.out, ?_⟩
              repeat (first | with_reducible refine Below.drew ?_ | with_reducible exact hbV | with_reducible refine Below.setCell ?_ (by first | exact hDw | exact hEw) _)
          · skip
            by_cases hw5 : A = [97, 100, 111, 112, 116]
            · have hw := hw5
              have e0 : (A == [115, 116, 97, 114, 116]) = false := by rw [hw]; rfl
              have e1 : (A == [115, 116, 101, 112]) = false := by rw [hw]; rfl
              have e2 : (A == [107, 105, 108, 108]) = false := by rw [hw]; rfl
              have e3 : (A == [109, 97, 108, 108, 111, 99]) = false := by rw [hw]; rfl
              have e4 : (A == [102, 114, 101, 101]) = false := by rw [hw]; rfl
              have e5 : (A == [97, 100, 111, 112, 116]) = true := by rw [hw]; rfl
              have e6 : (A == [114, 101, 97, 108, 108, 111, 99]) = false := by rw [hw]; rfl
              clear hw0 hw1 hw2 hw3 hw4 hw5
              have hl2 : lineO l = (nR 2 T).map fun zs => opV 4 (zs.getD 0 0) (zs.getD 1 0) (zs.getD 2 0) := by rw [hline.out, hw, ← hops.out]; rfl
              replace hl2 := Lib.hid hl2
              have hn2 := Lib.hid (hnm.out 2 (by decide))
              replace hw := Lib.hid hw
              clear hline hstart hops hones hnm
              go_upto_region 19 with (go_at_call 31; refine hn2.out.mono ?_; rintro r w2 ⟨⟨v', rfl, hvs⟩, hb2⟩; replace hvs := Lib.hid hvs)
              have hbw2 := hbw.trans (hb2.mono hbw.size)
              have bx2 := hQ.out w2 hb2
              clear q0 q1 q2 q3 q4 q5 qf hn2
              have k0 : w2.cell? ⟨D, 0, .none⟩ = some (.int .i64 0) := rowCells bx2 0
              have k1 : w2.cell? ⟨D, 1, .none⟩ = some (.int .i64 0) := rowCells bx2 1
              have k2 : w2.cell? ⟨D, 2, .none⟩ = some (.int .i64 0) := rowCells bx2 2
              have k3 : w2.cell? ⟨D, 3, .none⟩ = some (.int .i64 0) := rowCells bx2 3
              have k4 : w2.cell? ⟨D, 4, .none⟩ = some (.int .i64 0) := rowCells bx2 4
              have k5 : w2.cell? ⟨D, 5, .none⟩ = some (.float .f64 0) := rowCells bx2 5
              have kf := rowFree bx2
              cases hnr : nR 2 T with
              | none =>
                have hl3 : Hid (lineO l = none) := Lib.hid (by rw [hl2.out, hnr]; rfl)
                clear hvs hl2 hnr
                go_wp2_with fail
                refine bodyPost_ret (v := .tuple #[Ch.val ⟨0, 0, 0, 0, 0, 0⟩, .bool false]) (by simp [results, Tryd.results32, go_sem, Ch.val, k0, k1, k2, k3, k4, k5]) rfl ⟨LineAns.no hl3.out, ?_⟩
                repeat (first | with_reducible refine Below.drew ?_ | with_reducible exact hbw2 | with_reducible refine Below.setCell ?_ (by first | exact hDw | exact hEw) _)
              | some zs =>
                have hrz := hvs.out zs hnr
                have hzl := nR_length hnr
                obtain ⟨c, x, rfl⟩ : ∃ c x, zs = [c, x] := by
                  match zs, hzl with
                  | [c, x], _ => exact ⟨c, x, rfl⟩
                have hl3 : Hid (lineO l = some ⟨2, c, 4, x, 0, 0⟩) := Lib.hid (by rw [hl2.out, hnr]; rfl)
                clear hvs hl2 hnr hzl
                obtain ⟨ao, cap, rfl, hcap, hcap2, hcc1⟩ := hrz.cells
                obtain ⟨d, off, rfl, hdd, hcc⟩ := hcc1 (by simp)
                have z0 : w2.cell? ⟨d, off, .none⟩ = some (.int .i64 c) := hcc 0 (by simp)
                have z1 : w2.cell? ⟨d, off + 1, .none⟩ = some (.int .i64 x) := hcc 1 (by simp)
                simp only [List.length_cons, List.length_nil] at hcap ⊢
                clear hcc hcc1 hrz hcap2
                go_upto_region 22 with fail
                have be := heap_alloc_new w2 (.cells #[.int .i64 2, .int .i64 c, .int .i64 0, .int .i64 0, .int .i64 0, .float .f64 0] 45)
                have hbe := (Below.refl w2.heap.size w2).alloc (Nat.le_refl _) (.cells #[.int .i64 2, .int .i64 c, .int .i64 0, .int .i64 0, .int .i64 0, .float .f64 0] 45)
                generalize w2.alloc (.cells #[.int .i64 2, .int .i64 c, .int .i64 0, .int .i64 0, .int .i64 0, .float .f64 0] 45) = V at *
                obtain ⟨E, hE, hE'⟩ : ∃ E, Hid (E = w2.heap.size) ∧ E = w2.heap.size := ⟨_, Lib.hid rfl, rfl⟩
                simp only [← hE'] at be ⊢
                have hEw : w.heap.size ≤ E := by have := hbw2.size; omega
                have lD2 := (Array.getElem?_eq_some_iff.1 bx2).1
                have hDE : D ≠ E := by omega
                have hDE2 : E ≠ D := by omega
                have hdE : d ≠ E := by omega
                clear hE'
                replace z0 := (hbe.cell (p := ⟨d, off, .none⟩) hdd).trans z0
                replace z1 := (hbe.cell (p := ⟨d, off + 1, .none⟩) hdd).trans z1
                have bx3 := (hbe.block D lD2).trans bx2
                have hbV := hbw2.trans (hbe.mono hbw2.size)
                clear k0 k1 k2 k3 k4 k5 kf
                have k0 : V.cell? ⟨D, 0, .none⟩ = some (.int .i64 0) := rowCells bx3 0
                have k1 : V.cell? ⟨D, 1, .none⟩ = some (.int .i64 0) := rowCells bx3 1
                have k2 : V.cell? ⟨D, 2, .none⟩ = some (.int .i64 0) := rowCells bx3 2
                have k3 : V.cell? ⟨D, 3, .none⟩ = some (.int .i64 0) := rowCells bx3 3
                have k4 : V.cell? ⟨D, 4, .none⟩ = some (.int .i64 0) := rowCells bx3 4
                have k5 : V.cell? ⟨D, 5, .none⟩ = some (.float .f64 0) := rowCells bx3 5
                have kf := rowFree bx3
                have g0 : V.cell? ⟨E, 0, .none⟩ = some (.int .i64 2) := rowCells be 0
                have g1 : V.cell? ⟨E, 1, .none⟩ = some (.int .i64 c) := rowCells be 1
                have g2 : V.cell? ⟨E, 2, .none⟩ = some (.int .i64 0) := rowCells be 2
                have g3 : V.cell? ⟨E, 3, .none⟩ = some (.int .i64 0) := rowCells be 3
                have g4 : V.cell? ⟨E, 4, .none⟩ = some (.int .i64 0) := rowCells be 4
                have g5 : V.cell? ⟨E, 5, .none⟩ = some (.float .f64 0) := rowCells be 5
                have gf := rowFree be
                clear bx3 bx2 be hbe hbw2 hb2 hbw bx1 lD2
                go_wp2_with fail
                refine bodyPost_ret (v := .tuple #[Ch.val ⟨2, c, 4, x, 0, 0⟩, .bool true]) (by simp [results, Tryd.results32, go_sem, Ch.val, k0, k1, k2, k3, k4, k5]) rfl ⟨LineAns.yes hl3.out, ?_⟩
                repeat (first | with_reducible refine Below.drew ?_ | with_reducible exact hbV | with_reducible refine Below.setCell ?_ (by first | exact hDw | exact hEw) _)
            · skip
              by_cases hw6 : A = [114, 101, 97, 108, 108, 111, 99]
              · have hw := hw6
                have e0 : (A == [115, 116, 97, 114, 116]) = false := by rw [hw]; rfl
                have e1 : (A == [115, 116, 101, 112]) = false := by rw [hw]; rfl
                have e2 : (A == [107, 105, 108, 108]) = false := by rw [hw]; rfl
                have e3 : (A == [109, 97, 108, 108, 111, 99]) = false := by rw [hw]; rfl
                have e4 : (A == [102, 114, 101, 101]) = false := by rw [hw]; rfl
                have e5 : (A == [97, 100, 111, 112, 116]) = false := by rw [hw]; rfl
                have e6 : (A == [114, 101, 97, 108, 108, 111, 99]) = true := by rw [hw]; rfl
                clear hw0 hw1 hw2 hw3 hw4 hw5 hw6
                have hl2 : lineO l = (nR 3 T).map fun zs => opV 3 (zs.getD 0 0) (zs.getD 1 0) (zs.getD 2 0) := by rw [hline.out, hw, ← hops.out]; rfl
                replace hl2 := Lib.hid hl2
                have hn2 := Lib.hid (hnm.out 3 (by decide))
                replace hw := Lib.hid hw
                clear hline hstart hops hones hnm
                go_upto_region 19 with (go_at_call 31; refine hn2.out.mono ?_; rintro r w2 ⟨⟨v', rfl, hvs⟩, hb2⟩; replace hvs := Lib.hid hvs)
                have hbw2 := hbw.trans (hb2.mono hbw.size)
                have bx2 := hQ.out w2 hb2
                clear q0 q1 q2 q3 q4 q5 qf hn2
                have k0 : w2.cell? ⟨D, 0, .none⟩ = some (.int .i64 0) := rowCells bx2 0
                have k1 : w2.cell? ⟨D, 1, .none⟩ = some (.int .i64 0) := rowCells bx2 1
                have k2 : w2.cell? ⟨D, 2, .none⟩ = some (.int .i64 0) := rowCells bx2 2
                have k3 : w2.cell? ⟨D, 3, .none⟩ = some (.int .i64 0) := rowCells bx2 3
                have k4 : w2.cell? ⟨D, 4, .none⟩ = some (.int .i64 0) := rowCells bx2 4
                have k5 : w2.cell? ⟨D, 5, .none⟩ = some (.float .f64 0) := rowCells bx2 5
                have kf := rowFree bx2
                cases hnr : nR 3 T with
                | none =>
                  have hl3 : Hid (lineO l = none) := Lib.hid (by rw [hl2.out, hnr]; rfl)
                  clear hvs hl2 hnr
                  go_wp2_with fail
                  refine bodyPost_ret (v := .tuple #[Ch.val ⟨0, 0, 0, 0, 0, 0⟩, .bool false]) (by simp [results, Tryd.results32, go_sem, Ch.val, k0, k1, k2, k3, k4, k5]) rfl ⟨LineAns.no hl3.out, ?_⟩
                  repeat (first | with_reducible refine Below.drew ?_ | with_reducible exact hbw2 | with_reducible refine Below.setCell ?_ (by first | exact hDw | exact hEw) _)
                | some zs =>
                  have hrz := hvs.out zs hnr
                  have hzl := nR_length hnr
                  obtain ⟨c, x, y, rfl⟩ : ∃ c x y, zs = [c, x, y] := by
                    match zs, hzl with
                    | [c, x, y], _ => exact ⟨c, x, y, rfl⟩
                  have hl3 : Hid (lineO l = some ⟨2, c, 3, x, y, 0⟩) := Lib.hid (by rw [hl2.out, hnr]; rfl)
                  clear hvs hl2 hnr hzl
                  obtain ⟨ao, cap, rfl, hcap, hcap2, hcc1⟩ := hrz.cells
                  obtain ⟨d, off, rfl, hdd, hcc⟩ := hcc1 (by simp)
                  have z0 : w2.cell? ⟨d, off, .none⟩ = some (.int .i64 c) := hcc 0 (by simp)
                  have z1 : w2.cell? ⟨d, off + 1, .none⟩ = some (.int .i64 x) := hcc 1 (by simp)
                  have z2 : w2.cell? ⟨d, off + 2, .none⟩ = some (.int .i64 y) := hcc 2 (by simp)
                  simp only [List.length_cons, List.length_nil] at hcap ⊢
                  clear hcc hcc1 hrz hcap2
                  go_upto_region 22 with fail
                  have be := heap_alloc_new w2 (.cells #[.int .i64 2, .int .i64 c, .int .i64 0, .int .i64 0, .int .i64 0, .float .f64 0] 45)
                  have hbe := (Below.refl w2.heap.size w2).alloc (Nat.le_refl _) (.cells #[.int .i64 2, .int .i64 c, .int .i64 0, .int .i64 0, .int .i64 0, .float .f64 0] 45)
                  generalize w2.alloc (.cells #[.int .i64 2, .int .i64 c, .int .i64 0, .int .i64 0, .int .i64 0, .float .f64 0] 45) = V at *
                  obtain ⟨E, hE, hE'⟩ : ∃ E, Hid (E = w2.heap.size) ∧ E = w2.heap.size := ⟨_, Lib.hid rfl, rfl⟩
                  simp only [← hE'] at be ⊢
                  have hEw : w.heap.size ≤ E := by have := hbw2.size; omega
                  have lD2 := (Array.getElem?_eq_some_iff.1 bx2).1
                  have hDE : D ≠ E := by omega
                  have hDE2 : E ≠ D := by omega
                  have hdE : d ≠ E := by omega
                  clear hE'
                  replace z0 := (hbe.cell (p := ⟨d, off, .none⟩) hdd).trans z0
                  replace z1 := (hbe.cell (p := ⟨d, off + 1, .none⟩) hdd).trans z1
                  replace z2 := (hbe.cell (p := ⟨d, off + 2, .none⟩) hdd).trans z2
                  have bx3 := (hbe.block D lD2).trans bx2
                  have hbV := hbw2.trans (hbe.mono hbw2.size)
                  clear k0 k1 k2 k3 k4 k5 kf
                  have k0 : V.cell? ⟨D, 0, .none⟩ = some (.int .i64 0) := rowCells bx3 0
                  have k1 : V.cell? ⟨D, 1, .none⟩ = some (.int .i64 0) := rowCells bx3 1
                  have k2 : V.cell? ⟨D, 2, .none⟩ = some (.int .i64 0) := rowCells bx3 2
                  have k3 : V.cell? ⟨D, 3, .none⟩ = some (.int .i64 0) := rowCells bx3 3
                  have k4 : V.cell? ⟨D, 4, .none⟩ = some (.int .i64 0) := rowCells bx3 4
                  have k5 : V.cell? ⟨D, 5, .none⟩ = some (.float .f64 0) := rowCells bx3 5
                  have kf := rowFree bx3
                  have g0 : V.cell? ⟨E, 0, .none⟩ = some (.int .i64 2) := rowCells be 0
                  have g1 : V.cell? ⟨E, 1, .none⟩ = some (.int .i64 c) := rowCells be 1
                  have g2 : V.cell? ⟨E, 2, .none⟩ = some (.int .i64 0) := rowCells be 2
                  have g3 : V.cell? ⟨E, 3, .none⟩ = some (.int .i64 0) := rowCells be 3
                  have g4 : V.cell? ⟨E, 4, .none⟩ = some (.int .i64 0) := rowCells be 4
                  have g5 : V.cell? ⟨E, 5, .none⟩ = some (.float .f64 0) := rowCells be 5
                  have gf := rowFree be
                  clear bx3 bx2 be hbe hbw2 hb2 hbw bx1 lD2
                  go_upto_region 23 with fail
                  go_region
                  go_wp2_with fail
                  refine bodyPost_ret (v := .tuple #[Ch.val ⟨2, c, 3, x, y, 0⟩, .bool true]) (by simp [results, Tryd.results32, go_sem, Ch.val, k0, k1, k2, k3, k4, k5]) rfl ⟨LineAns.yes hl3.out, ?_⟩
                  repeat (first | with_reducible refine Below.drew ?_ | with_reducible exact hbV | with_reducible refine Below.setCell ?_ (by first | exact hDw | exact hEw) _)
              · skip
                have hl3 : Hid (lineO l = none) := Lib.hid (by rw [hline.out]; unfold wordsO; rw [if_neg hw0, if_neg hw3, if_neg hw4, if_neg hw6, if_neg hw5, if_neg hw1, if_neg hw2])
                have e0 : (A == [115, 116, 97, 114, 116]) = false := by simpa using hw0
                have e1 : (A == [115, 116, 101, 112]) = false := by simpa using hw1
                have e2 : (A == [107, 105, 108, 108]) = false := by simpa using hw2
                have e3 : (A == [109, 97, 108, 108, 111, 99]) = false := by simpa using hw3
                have e4 : (A == [102, 114, 101, 101]) = false := by simpa using hw4
                have e5 : (A == [97, 100, 111, 112, 116]) = false := by simpa using hw5
                have e6 : (A == [114, 101, 97, 108, 108, 111, 99]) = false := by simpa using hw6
                replace hw0 := Lib.hid hw0
                replace hw1 := Lib.hid hw1
                replace hw2 := Lib.hid hw2
                replace hw3 := Lib.hid hw3
                replace hw4 := Lib.hid hw4
                replace hw5 := Lib.hid hw5
                replace hw6 := Lib.hid hw6
                go_wp2_with fail
                refine bodyPost_ret (v := .tuple #[Ch.val ⟨0, 0, 0, 0, 0, 0⟩, .bool false]) (by simp [results, Tryd.results32, go_sem, Ch.val, q0, q1, q2, q3, q4, q5]) rfl ⟨LineAns.no hl3.out, ?_⟩
                repeat (first | with_reducible refine Below.drew ?_ | with_reducible exact hbw | with_reducible refine Below.setCell ?_ hDw _)
end Go.Proofs.YtkeiehgojclecaaDoor
