/- What a model is in memory; the search in it. -/
import Derived.Test.YtclidckjnoafcaaRwC

import Derived.Test.YtclidckjnoafcaaMdlP

import Derived.Deep.DrawnRows

namespace Go.Proofs.Ytclidckjnoafcaa

open Go.RowKit

def Bk.cells (b : Bk) : List Value := [.int .i64 b.a, .int .i64 b.n]
def flatB (l : List Bk) : List Value := l.flatMap Bk.cells
theorem flatB_length (l : List Bk) : (flatB l).length = l.length * 2 := by
  induction l with
  | nil => rfl
  | cons b l ih => show (b.cells ++ flatB l).length = _; rw [List.length_append, ih, List.length_cons]; show 2 + _ = _; omega
theorem flatB_append (l k : List Bk) : flatB (l ++ k) = flatB l ++ flatB k := by simp [flatB]
theorem flatB_get (l : List Bk) (i j : Nat) (hi : i < l.length) (hj : j < 2) : (flatB l)[i * 2 + j]? = (l[i].cells)[j]? := by
  induction l generalizing i with
  | nil => simp at hi
  | cons b l ih =>
    show (b.cells ++ flatB l)[i * 2 + j]? = _
    have hl : b.cells.length = 2 := rfl
    cases i with
    | zero => rw [List.getElem?_append_left (by omega)]; simp
    | succ i =>
      rw [List.getElem?_append_right (by omega), hl, show (i + 1) * 2 + j - 2 = i * 2 + j from by omega]
      simpa using ih i (by simpa using hi)
theorem flatB_take (l : List Bk) (k : Nat) : (flatB l).take (k * 2) = flatB (l.take k) := by
  induction k generalizing l with
  | zero => simp [flatB]
  | succ k ih =>
    cases l with
    | nil => simp [flatB]
    | cons b l =>
      show (b.cells ++ flatB l).take _ = b.cells ++ flatB (l.take k)
      rw [← ih, List.take_append, show b.cells.length = 2 from rfl, show (k + 1) * 2 - 2 = k * 2 from by omega, List.take_of_length_le (by show 2 ≤ _; omega)]
theorem flatB_drop (l : List Bk) (k : Nat) : (flatB l).drop (k * 2) = flatB (l.drop k) := by
  induction k generalizing l with
  | zero => simp
  | succ k ih =>
    cases l with
    | nil => simp [flatB]
    | cons b l =>
      show (b.cells ++ flatB l).drop _ = flatB (l.drop k)
      rw [← ih, List.drop_append, show b.cells.length = 2 from rfl, show (k + 1) * 2 - 2 = k * 2 from by omega, List.drop_of_length_le (by show 2 ≤ _; omega)]
      rfl
theorem flatB_one (l : List Bk) : ∀ u ∈ flatB l, u.oneCell' = true := by
  intro u hu
  obtain ⟨b, _, hb⟩ := List.mem_flatMap.1 hu
  simp only [Bk.cells, List.mem_cons, List.not_mem_nil, or_false] at hb
  rcases hb with rfl | rfl <;> rfl

/-- A slice that reads as a row of blocks. -/
def RdK (w : World) (v : Value) (l : List Bk) : Prop := RdS w 2 v l.length (flatB l)
theorem RdK.nth {w : World} {v : Value} {l : List Bk} (r : RdK w v l) : ∃ ao cap, v = .slice ao l.length cap ∧ l.length ≤ cap ∧ (cap : Int) ≤ 9223372036854775807 ∧ (l ≠ [] → ∃ b off, ao = some ⟨b, off, .none⟩ ∧ b < w.heap.size ∧
    ∀ i (hi : i < l.length), w.cell? ⟨b, off + i * 2, .none⟩ = some (.int .i64 l[i].a) ∧ w.cell? ⟨b, off + i * 2 + 1, .none⟩ = some (.int .i64 l[i].n)) := by
  obtain ⟨ao, cap, e, h1, h2, _, h4⟩ := r
  refine ⟨ao, cap, e, h1, h2, fun hn => ?_⟩
  obtain ⟨b, off, ea, hlt, hc⟩ := h4 (fun h => hn (List.eq_nil_of_length_eq_zero h))
  refine ⟨b, off, ea, hlt, fun i hi => ⟨?_, ?_⟩⟩
  · have := hc (i * 2) (by omega)
    rw [this, show i * 2 = i * 2 + 0 from rfl, flatB_get l i 0 hi (by omega)]
    rfl
  · have := hc (i * 2 + 1) (by omega)
    rw [Nat.add_assoc, this, flatB_get l i 1 hi (by omega)]
    rfl

/-- The model that lies at block s: its slice's value, its words, its blocks. 'B': all of it lies from block B on. -/
structure Mdl (T E : TypeId) (B : Nat) (w : World) (s : Nat) (sl : Value) (W : Int) (l : List Bk) : Prop where
  lies : B ≤ s
  head : w.heap[s]? = some (.cells #[sl, .int .i64 W] T (0, 0))
  owns : w.ownsRow B E 2 sl l.length (flatB l)
  apart : sl.ownBlock ≠ some s
  ok : okK W 0 l
  small : W ≤ 4096

section

variable {T E : TypeId} {B : Nat} {w w' : World} {s : Nat} {sl : Value} {W : Int} {l : List Bk}

theorem Mdl.lt (h : Mdl T E B w s sl W l) : s < w.heap.size := (Array.getElem?_eq_some_iff.1 h.head).1
theorem Mdl.rowLt (h : Mdl T E B w s sl W l) : ∀ k, sl.ownBlock = some k → B ≤ k ∧ k < w.heap.size := h.owns.lt
theorem Mdl.cell0 (h : Mdl T E B w s sl W l) : w.cell? ⟨s, 0, .none⟩ = some sl := by simpa using cell_of_row w s 0 _ T (0, 0) h.head
theorem Mdl.cell1 (h : Mdl T E B w s sl W l) : w.cell? ⟨s, 1, .none⟩ = some (.int .i64 W) := by simpa using cell_of_row w s 1 _ T (0, 0) h.head
theorem Mdl.free (h : Mdl T E B w s sl W l) (i : Nat) : w.frozen? ⟨s, i, .none⟩ = false := rowFree h.head i
theorem Mdl.rd (h : Mdl T E B w s sl W l) : RdK w sl l := RdS.of_own h.owns
theorem Mdl.blocks (h : Mdl T E B w s sl W l) (hb : ∀ k, foot s sl k → w'.heap[k]? = w.heap[k]?) : Mdl T E B w' s sl W l :=
  ⟨h.lies, by rw [hb s (.inl rfl)]; exact h.head, ownsRow_of_blocks h.owns (fun k hk => hb k (.inr hk)), h.apart, h.ok, h.small⟩
theorem Mdl.below (h : Mdl T E B w s sl W l) (hb : Below w.heap.size w w') : Mdl T E B w' s sl W l :=
  h.blocks fun k hk => hb.block k (by rcases hk with rfl | hk; exact h.lt; exact (h.rowLt k hk).2)
theorem Mdl.only {F : Nat → Prop} (h : Mdl T E B w s sl W l) (ho : Only F w w') (hF : ∀ k, foot s sl k → ¬ F k) : Mdl T E B w' s sl W l :=
  h.blocks fun k hk => ho.block k (by rcases hk with rfl | hk; exact h.lt; exact (h.rowLt k hk).2) (hF k hk)
theorem Mdl.len (h : Mdl T E B w s sl W l) : l.length ≤ 4096 := by have := h.ok.len; have := h.small; omega
end

theorem cmpI_zero' (a b : Int) : (if a < b then (-1 : Int) else if b < a then 1 else 0) = 0 ↔ a = b := by
  split
  · omega
  · split <;> omega
/-- Which is ahead. -/
def cmpZ (a b : Int) : Int := if a < b then -1 else if b < a then 1 else 0

theorem isNaNint_any (x : Int) (w : World) : Calls Try.prog 41 #[.int .i64 x] w fun e w' => e = .returned (.bool false) ∧ w' = w := by
  have hx : (x != x) = false := by simp
  go_enter Try.func41, Try.ntmps41
  go_wp2
  go_ret
  exact ⟨rfl, rfl⟩
theorem cmpInt_any (a b : Int) (w : World) : Calls Try.prog 35 #[.int .i64 a, .int .i64 b] w fun e w' => e = .returned (.int .i64 (cmpZ a b)) ∧ w' = w := by
  unfold cmpZ
  by_cases h1 : a < b
  · rw [if_pos h1]
    go_enter Try.func35, Try.ntmps35
    go_wp2_with (go_at_call 41; refine (isNaNint_any _ _).mono ?_; rintro e w1 ⟨rfl, hw⟩; obtain rfl := hw.symm)
    go_ret
    exact ⟨rfl, rfl⟩
  · rw [if_neg h1]
    by_cases h2 : b < a
    · rw [if_pos h2]
      go_enter Try.func35, Try.ntmps35
      go_wp2_with (go_at_call 41; refine (isNaNint_any _ _).mono ?_; rintro e w1 ⟨rfl, hw⟩; obtain rfl := hw.symm)
      go_ret
      exact ⟨rfl, rfl⟩
    · rw [if_neg h2]
      go_enter Try.func35, Try.ntmps35
      go_wp2_with (go_at_call 41; refine (isNaNint_any _ _).mono ?_; rintro e w1 ⟨rfl, hw⟩; obtain rfl := hw.symm)
      go_ret
      exact ⟨rfl, rfl⟩
theorem find1_any (a n at' : Int) (w : World) : Calls Try.prog 34 #[.agg #[.int .i64 a, .int .i64 n], .int .i64 at'] w fun e w' => e = .returned (.int .i64 (cmpZ a at')) ∧ Below w.heap.size w w' := by
  go_enter Try.func34, Try.ntmps34
  go_wp2_with (go_at_call 35; refine (cmpInt_any _ _ _).mono ?_; rintro e w1 ⟨rfl, hw⟩; obtain rfl := hw.symm)
  go_ret
  exact ⟨rfl, (Below.refl _ _).alloc (Nat.le_refl _) _⟩

set_option maxHeartbeats 1000000 in
theorem search_any (l : List Bk) (v : Value) (at' W lo : Int) (w : World) (hr : RdK w v l) (hok : okK W lo l) (hlen : l.length ≤ 4096) :
    Calls Try.prog 33 #[v, .int .i64 at', .func (.func 34) #[] #[]] w fun e w' => e = .returned (.tuple #[.int .i64 (posB at' l), .bool (foundB at' l)]) ∧ Below w.heap.size w w' := by
  obtain ⟨ao, cap, rfl, hcap, hcm, hrow⟩ := hr.nth
  obtain ⟨n, hn, hn'⟩ : ∃ n, Hid (n = l.length) ∧ n = l.length := ⟨_, Lib.hid rfl, rfl⟩
  rw [← hn'] at hcap hlen ⊢
  clear hn'
  go_enter Try.func33, Try.ntmps33
  go_wp2
  go_loopw [9, 10] (fun vi vj wr => ∃ i j : Nat, i ≤ j ∧ j ≤ n ∧ vi = .int .i64 i ∧ vj = .int .i64 j ∧ (∀ k (_ : k < i) (hk : k < l.length), l[k].a < at') ∧ (∀ k (_ : j ≤ k) (hk : k < l.length), at' ≤ l[k].a) ∧ Below w.heap.size w wr) (fun vi vj _ => (intOf vj).toNat - (intOf vi).toNat)
  case atStart => exact ⟨0, n, Nat.zero_le _, Nat.le_refl _, rfl, rfl, fun k h _ => by omega, fun k h hk => by have := hn.out; omega, Below.refl _ _⟩
  case round =>
    obtain ⟨i, j, hij, hj, rfl, rfl, hlo, hhi, hbr⟩ := hrel
    replace hlo := Lib.hid hlo
    replace hhi := Lib.hid hhi
    by_cases hlt : i < j
    · have hhl : (i + j) / 2 < l.length := by have := hn.out; omega
      obtain ⟨b, off, rfl, hb, hc⟩ := hrow (fun e => by rw [e] at hhl; simp at hhl)
      obtain ⟨c0, c1⟩ := hc _ hhl
      replace c0 := keepF hbr _ _ _ c0
      replace c1 := keepF hbr _ _ _ c1
      have hA : Hid (∀ h : l[(i + j) / 2].a < at', ∀ k (_ : k < (i + j) / 2 + 1) (hk : k < l.length), l[k].a < at') := fun h k hk hkl => by
        rcases Nat.lt_or_ge k ((i + j) / 2) with h1 | h1
        · have := hok.lt k _ h1 hhl
          have := (hok.mem _ (List.getElem_mem hkl)).2.1
          omega
        · have e : k = (i + j) / 2 := by omega
          simp only [e]; exact h
      have hB : Hid (∀ h : at' ≤ l[(i + j) / 2].a, ∀ k (_ : (i + j) / 2 ≤ k) (hk : k < l.length), at' ≤ l[k].a) := fun h k hk hkl => by
        rcases Nat.lt_or_ge ((i + j) / 2) k with h1 | h1
        · have := hok.lt _ k h1 hkl
          have := (hok.mem _ (List.getElem_mem hhl)).2.1
          omega
        · have e : k = (i + j) / 2 := by omega
          simp only [e]; exact h
      have hij2 : (i : Int) + (j : Int) ≤ 9000 := by omega
      have hq1 : ((i : Int) + (j : Int)) / 2 < (n : Int) := by omega
      have hq0 : (0 : Int) ≤ ((i : Int) + (j : Int)) / 2 := by omega
      generalize l[(i + j) / 2].a = ba at *
      generalize l[(i + j) / 2].n = bn at *
      by_cases hlt2 : ba < at'
      · have hcz : cmpZ ba at' = -1 := if_pos hlt2
        replace hA := Lib.hid (hA hlt2)
        clear hB hc hrow
        go_wp2_with fail
        refine (find1_any ba bn at' _).mono ?_
        rintro e w1 ⟨rfl, hb1⟩
        rw [hcz]
        have hbr1 := hbr.trans (hb1.mono hbr.size)
        go_wp2
        exact ⟨⟨(i + j) / 2 + 1, j, by omega, hj, by go_num, rfl, hA.out, hhi.out, hbr1⟩, by simp [intOf]; omega⟩
      · have hcz : decide (cmpZ ba at' < 0) = false := by
          unfold cmpZ; rw [if_neg hlt2]; split <;> simp
        replace hB := Lib.hid (hB (by omega))
        clear hA hc hrow
        go_wp2_with fail
        refine (find1_any ba bn at' _).mono ?_
        rintro e w1 ⟨rfl, hb1⟩
        have hbr1 := hbr.trans (hb1.mono hbr.size)
        generalize cmpZ ba at' = z at *
        go_wp2
        exact ⟨⟨i, (i + j) / 2, by omega, by omega, rfl, by go_num, hlo.out, hB.out, hbr1⟩, by simp [intOf]; omega⟩
    · have hije : i = j := by omega
      subst hije
      have hj0 : ¬ ((i : Int) < (i : Int)) := by omega
      have hpos : posB at' l = i := posB_unique at' l i (by rw [← hn.out]; exact hj) hlo.out (fun hk => hhi.out i (Nat.le_refl _) hk)
      have hfd : foundB at' l = decide (∃ h : i < l.length, l[i].a = at') := by
        rw [Bool.eq_iff_iff, foundB_iff, decide_eq_true_eq]
        simp only [hpos]
      replace hpos := Lib.hid hpos
      replace hfd := Lib.hid hfd
      clear hlt
      by_cases hin : i < n
      · have hil : i < l.length := hn.out ▸ hin
        obtain ⟨b, off, rfl, hb, hc⟩ := hrow (fun e => by rw [e] at hil; simp at hil)
        obtain ⟨c0, c1⟩ := hc _ hil
        replace c0 := keepF hbr _ _ _ c0
        replace c1 := keepF hbr _ _ _ c1
        have hfin : Hid (decide (∃ h : i < l.length, l[i].a = at') = decide (l[i].a = at')) := by
          show _ = _
          congr 1
          exact propext ⟨fun ⟨_, h⟩ => h, fun h => ⟨hil, h⟩⟩
        have hi0 : (0 : Int) ≤ (i : Int) := by omega
        have hi1 : (i : Int) < (n : Int) := by omega
        generalize l[i].a = ba at *
        generalize l[i].n = bn at *
        have hcz : (cmpZ ba at' == 0) = decide (ba = at') := by
          rw [Bool.eq_iff_iff, beq_iff_eq, decide_eq_true_eq]; exact cmpI_zero' _ _
        replace hcz := Lib.hid hcz
        clear hc hrow
        go_wp2_with fail
        refine (find1_any ba bn at' _).mono ?_
        rintro e w1 ⟨rfl, hb1⟩
        have hbr1 := hbr.trans (hb1.mono hbr.size)
        generalize cmpZ ba at' = z at *
        go_wp2
        go_ret2
        exact ⟨by rw [hpos.out, hfd.out, hfin.out, ← hcz.out]; rfl, hbr1⟩
      · have hin' : i = n := by omega
        subst hin'
        have hfin : decide (∃ h : i < l.length, l[i].a = at') = false := decide_eq_false (fun ⟨h, _⟩ => by have := hn.out; omega)
        replace hfin := Lib.hid hfin
        go_wp2
        go_ret2
        exact ⟨by rw [hpos.out, hfd.out, hfin.out]; rfl, hbr⟩

abbrev PM := Mdl 66 52
theorem find_any {B s : Nat} {w : World} {sl : Value} {W : Int} {l : List Bk} (h : PM B w s sl W l) (at' : Int) :
    Calls Try.prog 26 #[.pointer (some ⟨s, 0, .none⟩), .int .i64 at'] w fun e w' => e = .returned (.tuple #[.int .i64 (posB at' l), .bool (foundB at' l)]) ∧ Below w.heap.size w w' := by
  have c0 := h.cell0
  go_enter Try.func26, Try.ntmps26
  go_wp2_with fail
  refine (search_any l sl at' W 0 _ h.rd h.ok h.len).mono ?_
  rintro e w1 ⟨rfl, hb1⟩
  go_wp2
  go_ret2
  exact ⟨rfl, hb1⟩
end Go.Proofs.Ytclidckjnoafcaa
