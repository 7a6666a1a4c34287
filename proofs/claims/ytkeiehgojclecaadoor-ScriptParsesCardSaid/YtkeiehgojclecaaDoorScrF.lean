/- Lines, read: plain; the walks of package script's heap and start. -/
import Derived.Test.YtkeiehgojclecaaDoorScrE

import Derived.Test.YtkeiehgojclecaaDoorQTail

namespace Go.Proofs.YtkeiehgojclecaaDoor

open Go.RowKit

attribute [local go_sem ↓] Go.wp_at_zero Go.wp_at_succ

attribute [local go_sem high] run_cut_l run_cut_h run_cut_lh

attribute [local go_sem] run_store_float

theorem spl_length (c : UInt8) (l : List UInt8) : ∀ p ∈ spl c l, p.length ≤ l.length := by
  induction l with
  | nil => intro p hp; simp [spl] at hp; subst hp; simp
  | cons b l ih =>
    intro p hp
    unfold spl at hp
    split at hp
    · simp only [List.mem_cons] at hp
      rcases hp with rfl | hp
      · simp
      · have := ih p hp; simp; omega
    · split at hp
      · simp at hp; subst hp; simp
      · rename_i q qs he
        rw [he] at ih
        simp only [List.mem_cons] at hp
        rcases hp with rfl | hp
        · have := ih q (by simp); simp; omega
        · have := ih p (by simp [hp]); simp; omega
/-- The first line. -/
def heapO (l : List UInt8) : Option (Int × Int × Int) := match spl 32 l with
  | [] => none
  | w :: r => if w = [104, 101, 97, 112] ∧ r.length = 3 then (match numsO r with | some [a, b, c] => some (a, b, c) | _ => none) else none
/-- What starts a client. -/
def startO : List (List UInt8) → Option Ch
  | [a, b] => (numO a).bind fun c => (rdO b).map fun x => ⟨1, c, 0, 0, 0, x⟩
  | _ => none
theorem spl_count (c : UInt8) (l : List UInt8) : (spl c l).length ≤ l.length + 1 := by
  induction l with
  | nil => simp [spl]
  | cons b l ih =>
    unfold spl
    split
    · simp; omega
    · split
      · simp
      · rename_i he
        rw [he] at ih
        simp at ih ⊢; omega
set_option maxRecDepth 100000 in
set_option maxHeartbeats 400000 in
theorem heap_any (l : List UInt8) (hl : l.length < 1000000) (w : World) (h : Laid w) :
    Calls Tryd.prog 22 #[.string (S l)] w fun e w' => (∃ a b c : Int, e = .returned (.tuple #[.agg #[.int .i64 a, .int .i64 b, .int .i64 c], .bool (heapO l).isSome]) ∧ ∀ r, heapO l = some r → (a, b, c) = r) ∧ Below w.heap.size w w' := by
  have hb0 := (Below.refl w.heap.size w).alloc (Nat.le_refl _) (.cells #[.int .i64 0, .int .i64 0, .int .i64 0] 26)
  have bx := heap_alloc_new w (.cells #[.int .i64 0, .int .i64 0, .int .i64 0] 26)
  have hho : heapO l = match spl 32 l with | [] => none | w :: r => if w = [104, 101, 97, 112] ∧ r.length = 3 then (match numsO r with | some [a, b, c] => some (a, b, c) | _ => none) else none := rfl
  have hpl := spl_length 32 l
  have hne := spl_ne 32 l
  have hcnt := spl_count 32 l
  go_enter Tryd.func22, Tryd.ntmps22
  go_upto_region 1 with fail
  generalize w.alloc (.cells #[.int .i64 0, .int .i64 0, .int .i64 0] 26) = W at *
  have hL := h.below hb0
  obtain ⟨H, hH, hH'⟩ : ∃ H, Hid (H = w.heap.size) ∧ H = w.heap.size := ⟨_, Lib.hid rfl, rfl⟩
  rw [← hH'] at bx ⊢
  clear hH'
  have l0 : H < W.heap.size := (Array.getElem?_eq_some_iff.1 bx).1
  have hsp := Lib.hid (split_any l 32 (by omega) W hL)
  obtain ⟨w0, r0, hspl⟩ : ∃ w0 r0, spl 32 l = w0 :: r0 := List.exists_cons_of_ne_nil hne
  rw [hspl] at hsp hho hpl hcnt
  clear hne
  obtain ⟨n, hn, hn'⟩ : ∃ n, Hid (n = r0.length + 1) ∧ n = r0.length + 1 := ⟨_, Lib.hid rfl, rfl⟩
  have hl1 : (w0 :: r0).length = n := by rw [List.length_cons, hn']
  rw [hl1] at hsp hcnt
  have c1 : (1 : Int) ≤ (n : Int) := by omega
  have c0 : (0 : Int) < (n : Int) := by omega
  clear hl1 hn'
  go_upto_region 2 with (go_at_call 21; refine hsp.out.mono ?_; rintro r w1 ⟨⟨b, rfl, hrd⟩, hb1⟩)
  have hn' := hn.out
  have hrd2 : RdT w1 (.slice (some ⟨b, 0, .none⟩) n n) (w0 :: r0) := hrd
  rw [hn'] at hrd2
  have htl := hrd2.tail
  rw [← hn'] at htl
  have hx0 : w1.cell? ⟨b, 0, .none⟩ = some (.string (S w0)) := by
    obtain ⟨ao, cap, e, _, _, hc⟩ := hrd2.cells
    injection e with e _ _
    subst e
    obtain ⟨b', off, e, _, hc⟩ := hc (by simp)
    injection e with e
    injection e with e1 e2
    subst e1 e2
    exact hc 0 (by simp)
  have hnm := Lib.hid (numbers_any r0 _ 3 (by omega) w1 htl (fun p hp => by have := hpl p (by simp [hp]); omega) (hL.below hb1))
  have hbw := hb0.trans (hb1.mono hb0.size)
  have bx1 : w1.heap[H]? = some (.cells #[.int .i64 0, .int .i64 0, .int .i64 0] 26 (0, 0)) := (hb1.block H l0).trans bx
  have lb := cell_lt hx0
  clear hn' hrd hrd2 htl hpl hsp bx hb1 hb0 hL h
  go_upto_region 3 with (go_at_call 37; refine hnm.out.mono ?_; rintro r w2 ⟨⟨v', bb, rfl, hbb, hvs⟩, hb2⟩; replace hbb := Lib.hid hbb)
  have hbw2 := hbw.trans (hb2.mono hbw.size)
  have bx2 : w2.heap[H]? = some (.cells #[.int .i64 0, .int .i64 0, .int .i64 0] 26 (0, 0)) := (hb2.block H (Array.getElem?_eq_some_iff.1 bx1).1).trans bx1
  have hx2 : w2.cell? ⟨b, 0, .none⟩ = some (.string (S w0)) := (hb2.cell (p := ⟨b, 0, .none⟩) lb).trans hx0
  clear hnm hb2 hbw hx0 bx1 lb w1
  have hbb := hbb.out
  have f0 := rowFree bx2
  have q0 : w2.cell? ⟨H, 0, .none⟩ = some (.int .i64 0) := rowCells bx2 0
  have q1 : w2.cell? ⟨H, 1, .none⟩ = some (.int .i64 0) := rowCells bx2 1
  have q2 : w2.cell? ⟨H, 2, .none⟩ = some (.int .i64 0) := rowCells bx2 2
  cases bb
  · have hno : (heapO l).isSome = false := by
      rw [hho]
      split
      · rename_i hc
        rw [hc.2] at hbb
        cases hq : numsO r0 with
        | none => rfl
        | some x => rw [hq] at hbb; simp at hbb
      · rfl
    replace hno := Lib.hid hno
    clear hvs hbb hho
    go_wp2_with fail
    refine bodyPost_ret (v := .tuple #[.agg #[.int .i64 0, .int .i64 0, .int .i64 0], .bool false]) (by simp [results, Tryd.results22, go_sem, q0, q1, q2]) rfl ⟨⟨0, 0, 0, by rw [hno.out], fun r hr => ?_⟩, ?_⟩
    · have := hno.out; rw [hr] at this; cases this
    · have hH' := hH.out
      exact ((hbw2.setCell (p := ⟨H, 0, .none⟩) (Nat.le_of_eq hH'.symm) _).setCell (p := ⟨H, 1, .none⟩) (Nat.le_of_eq hH'.symm) _).setCell (p := ⟨H, 2, .none⟩) (Nat.le_of_eq hH'.symm) _
  · have h3 : r0.length = 3 := by
      by_cases h : r0.length = 3
      · exact h
      · simp [h] at hbb
    obtain ⟨vs, hvv⟩ : ∃ vs, numsO r0 = some vs := by
      cases h : numsO r0 with
      | none => simp [h] at hbb
      | some x => exact ⟨x, rfl⟩
    have hrz := hvs vs h3 hvv
    have hl3 : vs.length = 3 := (numsO_length hvv).trans h3
    obtain ⟨x, y, z, rfl⟩ : ∃ x y z, vs = [x, y, z] := by
      match vs, hl3 with
      | [x, y, z], _ => exact ⟨x, y, z, rfl⟩
    obtain ⟨ao, cap, rfl, hcap, hcap2, hcc1⟩ := hrz.cells
    obtain ⟨d, off, rfl, hd, hcc⟩ := hcc1 (by simp)
    have z0 : w2.cell? ⟨d, off, .none⟩ = some (.int .i64 x) := hcc 0 (by simp)
    have z1 : w2.cell? ⟨d, off + 1, .none⟩ = some (.int .i64 y) := hcc 1 (by simp)
    have z2 : w2.cell? ⟨d, off + 2, .none⟩ = some (.int .i64 z) := hcc 2 (by simp)
    clear hcc hcc1 hrz hvs hbb hl3
    replace hcap := Lib.hid hcap
    by_cases hw : w0 = [104, 101, 97, 112]
    · have hyes : Hid (heapO l = some (x, y, z)) := Lib.hid (by rw [hho, if_pos ⟨hw, h3⟩, hvv])
      have e1 : (w0 == [104, 101, 97, 112]) = true := by simp [hw]
      replace hw := Lib.hid hw
      replace hvv := Lib.hid hvv
      replace h3 := Lib.hid h3
      clear hho
      go_wp2_with fail
      refine wp_region_ext_tail 10 (by kernel_rfl) (by kernel_rfl) ?_
      dsimp only [List.take, List.drop]
      repeat (go_big_quiet_step (fail))
      refine wpQuiet_nil ?_
      rintro _ ⟨e', rfl⟩
      have hbe := e'.below
      have hbw3 := hbw2.trans (hbe.mono hbw2.size)
      have bx3 : e'.w.heap[H]? = some (.cells #[.int .i64 0, .int .i64 0, .int .i64 0] 26 (0, 0)) := (hbe.block H (Array.getElem?_eq_some_iff.1 bx2).1).trans bx2
      generalize e'.w = X at *
      change wpList _ _ _ _ _ X
      have k0 : X.cell? ⟨H, 0, .none⟩ = some (.int .i64 0) := rowCells bx3 0
      have k1 : X.cell? ⟨H, 1, .none⟩ = some (.int .i64 0) := rowCells bx3 1
      have k2 : X.cell? ⟨H, 2, .none⟩ = some (.int .i64 0) := rowCells bx3 2
      have kf := rowFree bx3
      clear hbe f0 q0 q1 q2 z0 z1 z2
      go_wp2_with fail
      refine bodyPost_ret (v := .tuple #[.agg #[.int .i64 x, .int .i64 y, .int .i64 z], .bool true]) (by simp [results, Tryd.results22, go_sem, k0, k1, k2]) rfl ⟨⟨x, y, z, by rw [hyes.out]; rfl, fun r hr => ?_⟩, ?_⟩
      · rw [hyes.out] at hr; injection hr
      · have hH' := hH.out
        exact ((hbw3.setCell (p := ⟨H, 0, .none⟩) (Nat.le_of_eq hH'.symm) _).setCell (p := ⟨H, 1, .none⟩) (Nat.le_of_eq hH'.symm) _).setCell (p := ⟨H, 2, .none⟩) (Nat.le_of_eq hH'.symm) _
    · have hno : Hid (heapO l = none) := Lib.hid (by rw [hho, if_neg (fun h => hw h.1)])
      have e1 : (w0 == [104, 101, 97, 112]) = false := by simpa using hw
      replace hw := Lib.hid hw
      replace hvv := Lib.hid hvv
      replace h3 := Lib.hid h3
      clear hho
      go_wp2_with fail
      refine bodyPost_ret (v := .tuple #[.agg #[.int .i64 0, .int .i64 0, .int .i64 0], .bool false]) (by simp [results, Tryd.results22, go_sem, q0, q1, q2]) rfl ⟨⟨0, 0, 0, by rw [hno.out]; rfl, fun r hr => ?_⟩, ?_⟩
      · have := hno.out; rw [hr] at this; cases this
      · have hH' := hH.out
        exact ((hbw2.setCell (p := ⟨H, 0, .none⟩) (Nat.le_of_eq hH'.symm) _).setCell (p := ⟨H, 1, .none⟩) (Nat.le_of_eq hH'.symm) _).setCell (p := ⟨H, 2, .none⟩) (Nat.le_of_eq hH'.symm) _
end Go.Proofs.YtkeiehgojclecaaDoor
