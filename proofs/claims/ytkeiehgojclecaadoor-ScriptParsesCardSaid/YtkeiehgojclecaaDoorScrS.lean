/- Rows of texts; strings.Split; the walk of package script's numbers. -/
import Derived.Test.YtkeiehgojclecaaDoorScrW

import Derived.Test.YtkeiehgojclecaaDoorRw

import Derived.Test.YtkeiehgojclecaaDoorRwO

import Derived.Test.YtkeiehgojclecaaDoorOnly

import Derived.Deep.DrawnRows

namespace Go.Proofs.YtkeiehgojclecaaDoor

open Go.RowKit

attribute [local go_sem ↓] Go.wp_at_zero Go.wp_at_succ

attribute [local go_sem high] run_cut_l run_cut_h run_cut_lh

/-- The slice v reads as these texts. -/
def RdT (w : World) (v : Value) (ls : List (List UInt8)) : Prop := RdS w 1 v ls.length (ls.map fun l => Value.string (S l))
theorem RdT.below {w w' : World} {v : Value} {ls : List (List UInt8)} (h : RdT w v ls) (hb : Below w.heap.size w w') : RdT w' v ls := RdS.below h hb
theorem RdT.cells {w : World} {v : Value} {ls : List (List UInt8)} (h : RdT w v ls) : ∃ ao cap, v = .slice ao ls.length cap ∧ ls.length ≤ cap ∧ (cap : Int) ≤ 9223372036854775807 ∧
    (ls ≠ [] → ∃ b off, ao = some ⟨b, off, .none⟩ ∧ b < w.heap.size ∧ ∀ i (hi : i < ls.length), w.cell? ⟨b, off + i, .none⟩ = some (.string (S ls[i]))) := by
  obtain ⟨ao, cap, e, h1, h2, h3, h4⟩ := h
  refine ⟨ao, cap, e, h1, h2, fun hn => ?_⟩
  obtain ⟨b, off, e2, h5, h6⟩ := h4 (fun e => hn (List.eq_nil_of_length_eq_zero e))
  refine ⟨b, off, e2, h5, fun i hi => ?_⟩
  rw [h6 i (by omega), List.getElem?_map, List.getElem?_eq_getElem hi]; rfl
/-- All but the first text. -/
theorem RdT.tail {w : World} {ao : Option Addr} {cap : Nat} {l : List UInt8} {ls : List (List UInt8)} (h : RdT w (.slice ao (ls.length + 1) cap) (l :: ls)) : RdT w (cutV ao 1 (ls.length + 1) cap 1) ls := by
  have h2 : RdS w 1 (.slice ao (ls.length + 1) cap) (ls.length + 1) ((l :: ls).map fun l => Value.string (S l)) := h
  have := h2.cut (l := 1) (h := ls.length + 1) (by omega) (Nat.le_refl _)
  have e : (((l :: ls).map fun l => Value.string (S l)).drop (1 * 1)).take ((ls.length + 1 - 1) * 1) = ls.map fun l => Value.string (S l) := by
    simp [List.take_of_length_le]
  rw [e] at this
  exact this
/-- All but the last text. -/
theorem RdT.init {w : World} {ao : Option Addr} {cap n : Nat} {ls : List (List UInt8)} (h : RdT w (.slice ao ls.length cap) ls) (hn : n ≤ ls.length) : RdT w (cutV ao 0 n cap 1) (ls.take n) := by
  have h2 : RdS w 1 (.slice ao ls.length cap) ls.length (ls.map fun l => Value.string (S l)) := h
  have := h2.cut (l := 0) (h := n) (by omega) hn
  have e : (((ls).map fun l => Value.string (S l)).drop (0 * 1)).take ((n - 0) * 1) = (ls.take n).map fun l => Value.string (S l) := by simp [List.map_take]
  rw [e] at this
  unfold RdT
  rw [List.length_take, Nat.min_eq_left hn]
  simpa using this
theorem split_any (l : List UInt8) (c : UInt8) (hl : l.length < 4294967281) (w : World) (h : Laid w) :
    Calls Tryd.prog 21 #[.string (S l), .string (S [c])] w fun e w' => (∃ b, e = .returned (.slice (some ⟨b, 0, .none⟩) (spl c l).length (spl c l).length) ∧ RdT w' (.slice (some ⟨b, 0, .none⟩) (spl c l).length (spl c l).length) (spl c l)) ∧ Below w.heap.size w w' := by
  obtain ⟨m, hm⟩ := h.ml
  have hsp := split_any' l c
  refine (Tryd.strings_Split (S l) (S [c]) m w (by rw [S_size]; exact hl) hm (by rw [S_size]; simp)).mono fun e w' ⟨he, hw⟩ => ?_
  have hlen : (spl c l).length = Lib.countB (S l) (S [c]) + 1 := by
    rw [← hsp, List.length_map, Lib.splitB_all (S [c]) (by rw [S_size]; simp) 0 _ (S l) rfl]
  rw [← hlen] at he
  refine ⟨⟨_, he, ?_⟩, hw ▸ (Below.refl _ _).alloc (Nat.le_refl _) _⟩
  have hmap : (Lib.splitB (S [c]) 0 (Lib.countB (S l) (S [c])) (S l)).map Value.string = (spl c l).map fun l => Value.string (S l) := by
    rw [← hsp, List.map_map]
    apply List.map_congr_left
    intro s _
    simp only [Function.comp, S_data]
  rw [hmap] at hw
  have hb : w'.heap[w.heap.size]? = some (.cells ((spl c l).map fun l => Value.string (S l)).toArray 9 (0, 0)) := by rw [hw]; exact heap_alloc_new w _
  have hsmall : ((spl c l).length : Int) ≤ 9223372036854775807 := by
    have := Lib.countB_le (S [c]) (by rw [S_size]; simp) _ (S l) (Nat.le_refl _)
    rw [S_size] at this
    omega
  have := RdS.new (sz := 1) (n := (spl c l).length) hb (by simp) hsmall
  simpa [RdT] using this
theorem infoI : (Tryd.prog.info? 3).map (fun i => (i.zero, i.size, i.bytes)) = some (some (.int .i64 0), 1, 8) := by kernel_rfl
theorem numsO_take (ls : List (List UInt8)) : ∀ (i : Nat) (h : i < ls.length) (vs : List Int), numsO (ls.take i) = some vs → numsO (ls.take (i + 1)) = (numO ls[i]).map fun v => vs ++ [v] := by
  induction ls with
  | nil => intro i h; simp at h
  | cons l r ih =>
    intro i h vs hv
    cases i with
    | zero =>
      simp only [List.take_zero, numsO, Option.some.injEq] at hv
      subst hv
      simp [numsO]
      cases numO l <;> simp
    | succ i =>
      rw [List.take_succ_cons, numsO] at hv
      obtain ⟨v, h1, h2⟩ := Option.bind_eq_some_iff.1 hv
      obtain ⟨us, h3, h4⟩ := Option.map_eq_some_iff.1 h2
      subst h4
      rw [List.take_succ_cons, numsO, h1, Option.bind_some, ih i (by simpa using h) us h3]
      simp only [List.getElem_cons_succ]
      cases numO (r[i]'(by simpa using h)) <;> simp
theorem numsO_bad (ls : List (List UInt8)) : ∀ (i : Nat) (h : i < ls.length), numO ls[i] = none → numsO ls = none := by
  induction ls with
  | nil => intro i h; simp at h
  | cons l r ih =>
    intro i h hn
    cases i with
    | zero => simp only [List.getElem_cons_zero] at hn; simp [numsO, hn]
    | succ i =>
      have := ih i (by simpa using h) (by simpa using hn)
      rw [numsO, this]
      cases numO l <;> rfl
theorem numsO_length {ls : List (List UInt8)} {vs : List Int} (h : numsO ls = some vs) : vs.length = ls.length := by
  induction ls generalizing vs with
  | nil => simp [numsO] at h; subst h; rfl
  | cons l r ih =>
    obtain ⟨v, h1, h2⟩ := Option.bind_eq_some_iff.1 h
    obtain ⟨us, h3, h4⟩ := Option.map_eq_some_iff.1 h2
    subst h4
    simp [ih h3]
set_option maxRecDepth 100000 in
set_option maxHeartbeats 2000000 in
theorem numbers_any (ls : List (List UInt8)) (v : Value) (n : Nat) (hn : n ≤ 100) (w : World) (hr : RdT w v ls) (hl : ∀ l ∈ ls, l.length ≤ 281474976710656) (h : Laid w) :
    Calls Tryd.prog 37 #[v, .int .i64 n] w fun e w' => (∃ v' b, e = .returned (.tuple #[v', .bool b]) ∧ b = (decide (ls.length = n) && (numsO ls).isSome) ∧ ∀ vs, ls.length = n → numsO ls = some vs → RdZ .i64 w' v' vs) ∧ Below w.heap.size w w' := by
  obtain ⟨ao, cap, rfl, hcap, hcm, hrow⟩ := hr.cells
  have hnum := Lib.hid (fun l hl X hX => number_any l hl X (h.below (w' := X) hX))
  clear h
  have hbad := Lib.hid (numsO_bad ls)
  have htk := Lib.hid (numsO_take ls)
  obtain ⟨m, hm, hm'⟩ : ∃ m, Hid (m = ls.length) ∧ m = ls.length := ⟨_, Lib.hid rfl, rfl⟩
  rw [← hm'] at hcap ⊢
  clear hm'
  replace hl := Lib.hid hl
  replace hrow := Lib.hid hrow
  by_cases hmn : m = n
  · subst hmn
    have e1 : ((m : Int) == (m : Int)) = true := by simp
    obtain ⟨i0, hi0, hz0, hz1, hz2⟩ := info_parts infoI
    go_enter Tryd.func37, Tryd.ntmps37
    go_wp2_with fail
    go_loopw [6, 17] (fun v6 v17 wr => ∃ (i : Nat) (vs : List Int), i ≤ m ∧ v17 = .int .i64 i ∧ vs.length = i ∧ numsO (ls.take i) = some vs ∧ Below w.heap.size w wr ∧ wr.ownsRow w.heap.size 3 1 v6 i (vs.map (.int .i64))) (fun _ v17 _ => m - (intOf v17).toNat)
    case atStart => exact ⟨0, [], Nat.zero_le _, rfl, rfl, rfl, Below.refl _ _, ⟨rfl, .inl ⟨rfl, rfl⟩⟩⟩
    case round =>
      obtain ⟨i, vs, hi, rfl, hvl, hvs, hbr, hown⟩ := hrel
      obtain ⟨Y, rfl⟩ : ∃ V : World, V = wr := ⟨_, rfl⟩
      by_cases hlt : i < m
      · have hlt' : (i : Int) < (m : Int) := by omega
        have hi0' : (0 : Int) ≤ (i : Int) := by omega
        have wi1 : IntKind.i64.wrap ((i : Int) + 1) = (i : Int) + 1 := IntWalk.i64_in _ ⟨by omega, by omega⟩
        have hil : i < ls.length := hm.out ▸ hlt
        obtain ⟨b, off, rfl, hbw, hcc⟩ := hrow.out (fun e => by rw [e] at hil; simp at hil)
        have x0 : Y.cell? ⟨b, off + i, .none⟩ = some (.string (S ls[i])) := keepF hbr _ _ _ (hcc i hil)
        have hc1 := hnum.out ls[i] (hl.out _ (List.getElem_mem hil)) Y hbr
        have hbd := hbad.out i hil
        have htk1 := htk.out i hil vs hvs
        have hYs := hbr.size
        have hfin : Hid (∀ X v' r, numO ls[i] = some r → Below w.heap.size w X → X.ownsRow w.heap.size 3 1 v' (i + 1) (vs.map (.int .i64) ++ [.int .i64 r]) → (∃ (k : Nat) (us : List Int), k ≤ m ∧ Value.int .i64 ((i : Int) + 1) = .int .i64 k ∧ us.length = k ∧ numsO (ls.take k) = some us ∧ Below w.heap.size w X ∧ X.ownsRow w.heap.size 3 1 v' k (us.map (.int .i64))) ∧ m - (intOf (Value.int .i64 ((i : Int) + 1))).toNat < m - (intOf (Value.int .i64 (i : Int))).toNat) := Lib.hid fun X v' r h1 h2 h3 => by
          refine ⟨⟨i + 1, vs ++ [r], by omega, by go_num, by simp [hvl], by rw [htk1, h1]; rfl, h2, by rw [List.map_append]; exact h3⟩, by simp [intOf]; omega⟩
        replace hbd := Lib.hid hbd
        clear hcc hvs htk1 htk hbad hnum hrow hl hr
        generalize ls[i] = l at *
        replace hc1 := Lib.hid hc1
        replace hvl := Lib.hid hvl
        cases hno : numO l with
        | none =>
          rw [hno] at hc1 hbd
          have hb2 := hbd.out rfl
          clear hfin hbd hno
          go_wp2_with (go_at_call 50; refine hc1.out.mono ?_; rintro r w1 ⟨⟨v, rfl, _⟩, hb1⟩)
          go_ret2
          refine ⟨⟨_, false, rfl, by rw [hb2]; simp, fun vs _ h => (by rw [hb2] at h; cases h)⟩, hbr.trans (hb1.mono hbr.size)⟩
        | some r0 =>
          rw [hno] at hc1 hbd hfin
          clear hbd hno
          go_upto_region 8 with (go_at_call 50; refine hc1.out.mono ?_; rintro r w1 ⟨⟨v, rfl, hv⟩, hb1⟩; obtain rfl := hv r0 rfl; replace hb1 := Lib.hid hb1)
          have hbr1 := hbr.trans (hb1.out.mono hbr.size)
          have hown1 : w1.ownsRow w.heap.size 3 1 u6 i (vs.map (.int .i64)) := ownsRow_of_blocks hown fun k hk => hb1.out.block k (hown.lt k hk).2
          have hW1 := hbr1.size
          clear hown hbr hc1 x0 hb1
          obtain ⟨V, rfl⟩ : ∃ V : World, V = w1 := ⟨_, rfl⟩
          go_wp2_with (refine wpList_append_rd rfl (.tmp 28) (.tmp 30) 78 rfl w.heap.size 3 i0 _ 1 8 Tryd.underlying78 hi0 hz0 hz1 hz2 rfl (by omega) _ i _ rfl (hown1.alloc _) _ 1 [.int .i64 v] rfl (RdS.new (cs := #[.int .i64 v]) (t := 3) (sz := 1) (n := 1) (heap_alloc_new V _) rfl (by omega)) (by intro u hu; simp at hu; subst hu; rfl) (by simp only [maxLen]; omega) (by omega) (by simp; omega) ?_; intro v1 w2 hown2 hgrow2 hat2; have hbr4 := grown_belowS (hbr1.alloc hW1 _) (hown1.alloc _) (by simp; omega) hgrow2)
          exact hfin.out _ _ _ rfl hbr4 hown2
      · have him : i = m := by omega
        subst him
        have hfull : ls.take i = ls := List.take_of_length_le (Nat.le_of_eq hm.out.symm)
        rw [hfull] at hvs
        clear hfull htk hbad hnum hrow hl hr
        replace hvl := Lib.hid hvl
        go_wp2
        go_ret2
        refine ⟨⟨_, true, rfl, by rw [hvs]; simp, fun us _ h => ?_⟩, hbr⟩
        rw [hvs] at h; injection h with h; subst h
        unfold RdZ
        rw [hvl.out]
        exact RdS.of_own hown
  · have e1 : ((m : Int) == (n : Int)) = false := by rw [beq_eq_false_iff_ne]; omega
    clear htk hbad hnum hrow hl hr
    go_enter Tryd.func37, Tryd.ntmps37
    go_wp2
    go_ret2
    exact ⟨⟨_, false, rfl, by simp [hmn], fun vs h => absurd h hmn⟩, Below.refl _ _⟩
end Go.Proofs.YtkeiehgojclecaaDoor
