/- The walks of package model: New, Used, Room, At, Inside. -/
import Derived.Test.YtclidckjnoafcaaMdlF

namespace Go.Proofs.Ytclidckjnoafcaa

open Go.RowKit

attribute [local go_sem ↓] Go.wp_at_zero Go.wp_at_succ

def capW (n : Int) : Int := if n < 0 ∨ 4096 < n then 0 else n
theorem capW_bd (n : Int) : 0 ≤ capW n ∧ capW n ≤ 4096 := by unfold capW; split <;> omega
theorem new_any (n : Int) (w : World) : Calls Try.prog 17 #[.int .i64 n] w fun e w' => e = .returned (.pointer (some ⟨w.heap.size, 0, .none⟩)) ∧ Below w.heap.size w w' ∧ PM w.heap.size w' w.heap.size (.slice none 0 0) (capW n) [] := by
  have key : ∀ W : Int, W = capW n → PM w.heap.size (w.alloc (.cells #[.slice none 0 0, .int .i64 W] 66)) w.heap.size (.slice none 0 0) (capW n) [] := fun W e => by
    have := capW_bd n
    exact ⟨Nat.le_refl _, by rw [← e]; exact heap_alloc_new w _, ⟨rfl, .inl ⟨rfl, rfl⟩⟩, by simp [Value.ownBlock], by show (0 : Int) ≤ capW n; omega, by omega⟩
  by_cases h1 : n < 0
  · have k := key 0 (by unfold capW; rw [if_pos (.inl h1)])
    go_enter Try.func17, Try.ntmps17
    go_wp2
    go_ret
    exact ⟨rfl, (Below.refl _ _).alloc (Nat.le_refl _) _, k⟩
  · by_cases h2 : 4096 < n
    · have k := key 0 (by unfold capW; rw [if_pos (.inr h2)])
      have hd : decide (4096 < n) = true := decide_eq_true h2
      go_enter Try.func17, Try.ntmps17
      go_wp2
      go_ret
      exact ⟨rfl, (Below.refl _ _).alloc (Nat.le_refl _) _, k⟩
    · have k := key n (by unfold capW; rw [if_neg (by omega)])
      have hd : decide (4096 < n) = false := decide_eq_false h2
      go_enter Try.func17, Try.ntmps17
      go_wp2
      go_ret
      exact ⟨rfl, (Below.refl _ _).alloc (Nat.le_refl _) _, k⟩

theorem usedB_snoc (l : List Bk) (b : Bk) : usedB (l ++ [b]) = usedB l + b.n := by simp [usedB]
theorem okK.take {W lo : Int} {l : List Bk} (h : okK W lo l) (k : Nat) : okK W lo (l.take k) := by
  induction l generalizing lo k with
  | nil => simpa using h
  | cons b l ih =>
    cases k with
    | zero => exact h.le
    | succ k => exact ⟨h.1, h.2.1, ih h.2.2 k⟩
theorem usedB_take {W : Int} {l : List Bk} (h : okK W 0 l) (k : Nat) : 0 ≤ usedB (l.take k) ∧ usedB (l.take k) ≤ W := by
  have := usedB_le (h.take k)
  omega

set_option maxHeartbeats 1000000 in
theorem used_any {B s : Nat} {w : World} {sl : Value} {W : Int} {l : List Bk} (h : PM B w s sl W l) :
    Calls Try.prog 13 #[.pointer (some ⟨s, 0, .none⟩)] w fun e w' => e = .returned (.int .i64 (usedB l)) ∧ Below w.heap.size w w' := by
  have c0 := h.cell0
  obtain ⟨ao, cap, rfl, hcap, hcm, hrow⟩ := h.rd.nth
  have hs := h.small
  have hlen := h.len
  obtain ⟨n, hn, hn'⟩ : ∃ n, Hid (n = l.length) ∧ n = l.length := ⟨_, Lib.hid rfl, rfl⟩
  rw [← hn'] at c0 hcap hlen
  clear hn'
  go_enter Try.func13, Try.ntmps13
  go_wp2
  go_loopw [3, 13] (fun vs vi wr => ∃ i : Nat, i ≤ n ∧ vi = .int .i64 i ∧ vs = .int .i64 (usedB (l.take i)) ∧ Below w.heap.size w wr) (fun _ vi _ => n - (intOf vi).toNat)
  case atStart => exact ⟨0, Nat.zero_le _, rfl, by simp [usedB], Below.refl _ _⟩
  case round =>
    obtain ⟨i, hi, rfl, rfl, hbr⟩ := hrel
    by_cases hlt : i < n
    · have hil : i < l.length := hn.out ▸ hlt
      obtain ⟨b, off, rfl, hb, hc⟩ := hrow (fun e => by rw [e] at hil; simp at hil)
      obtain ⟨x0, x1⟩ := hc i hil
      replace x0 := keepF hbr _ _ _ x0
      replace x1 := keepF hbr _ _ _ x1
      have hu := usedB_take h.ok i
      have hu2 := usedB_take h.ok (i + 1)
      have hus : usedB (l.take (i + 1)) = usedB (l.take i) + l[i].n := by rw [List.take_succ_eq_append_getElem hil, usedB_snoc]
      rw [hus] at hu2
      replace hus := Lib.hid hus
      generalize l[i].a = ba at *
      generalize l[i].n = bn at *
      generalize usedB (l.take i) = U at *
      clear hc hrow
      go_wp2
      exact ⟨⟨i + 1, by omega, by go_num, by rw [hus.out], (hbr.alloc hbr.size _)⟩, by simp [intOf]; omega⟩
    · have hie : i = n := by omega
      subst hie
      have hj0 : ¬ ((i : Int) < (i : Int)) := by omega
      have hfin : Hid (usedB l = usedB (l.take i)) := by
        show _ = _
        rw [List.take_of_length_le (by rw [← hn.out]; exact Nat.le_refl _)]
      clear hlt
      go_wp2
      go_ret
      exact ⟨ret_int hfin.out.symm, hbr⟩
/-- Where the last of the first i ends. -/
def endB (l : List Bk) (i : Nat) : Int := match i with | 0 => 0 | i + 1 => match l[i]? with | some b => b.a + b.n | none => 0
theorem roomB_at {W n : Int} {l : List Bk} (i : Nat) (h : i < l.length) : roomB W n (endB l i) (l.drop i) = (decide (n ≤ l[i].a - endB l i) || roomB W n (endB l (i + 1)) (l.drop (i + 1))) := by
  rw [List.drop_eq_getElem_cons h]
  have : endB l (i + 1) = l[i].a + l[i].n := by simp only [endB, List.getElem?_eq_getElem h]
  rw [this]; rfl
theorem endB_bd {W : Int} {l : List Bk} (h : okK W 0 l) (i : Nat) : 0 ≤ endB l i ∧ endB l i ≤ W := by
  have hw := h.le
  cases i with
  | zero => exact ⟨Int.le_refl _, hw⟩
  | succ i =>
    simp only [endB]
    cases hi : l[i]? with
    | none => exact ⟨Int.le_refl _, hw⟩
    | some b =>
      have := h.mem b (List.mem_of_getElem? hi)
      exact ⟨by show 0 ≤ b.a + b.n; omega, this.2.2⟩

/-- A block and whether there is one, as a function answers it. -/
def blkV (o : Option Bk) : Value := match o with | some b => .tuple #[.agg #[.int .i64 b.a, .int .i64 b.n], .bool true] | none => .tuple #[.agg #[.int .i64 0, .int .i64 0], .bool false]

set_option maxHeartbeats 1000000 in
theorem at_any {B s : Nat} {w : World} {sl : Value} {W : Int} {l : List Bk} (h : PM B w s sl W l) (at' : Int) :
    Calls Try.prog 15 #[.pointer (some ⟨s, 0, .none⟩), .int .i64 at'] w fun e w' => e = .returned (blkV (atB l at')) ∧ Below w.heap.size w w' := by
  have ha : ∀ o, PM B (w.alloc o) s sl W l := fun o => h.below ((Below.refl _ _).alloc (Nat.le_refl _) _)
  obtain ⟨ao, cap, rfl, hcap, hcm, hrow⟩ := h.rd.nth
  have hlen := h.len
  by_cases hf : foundB at' l = true
  · obtain ⟨hp, he⟩ := (foundB_iff at' l).1 hf
    obtain ⟨b, off, rfl, hb, hc⟩ := hrow (fun e => by rw [e] at hp; simp at hp)
    obtain ⟨x0, x1⟩ := hc _ hp
    have hfin : Hid (blkV (atB l at') = .tuple #[.agg #[.int .i64 l[posB at' l].a, .int .i64 l[posB at' l].n], .bool true]) := by
      show _ = _
      unfold atB; rw [if_pos hf, List.getElem?_eq_getElem hp]; rfl
    have hpI : ((posB at' l : Nat) : Int) < (l.length : Int) := by omega
    have hp0 : (0 : Int) ≤ ((posB at' l : Nat) : Int) := by omega
    clear hc hrow he
    go_enter Try.func15, Try.ntmps15
    go_wp2_with fail
    refine (find_any (ha _) at').mono ?_
    rintro e w1 ⟨rfl, hb1⟩
    rw [hf]
    have hz : w.heap.size < w1.heap.size := by have := hb1.size; simp at this; omega
    have hh : w1.heap[w.heap.size]? = some (.cells #[.int .i64 0, .int .i64 0] 52 (0, 0)) := (hb1.block _ (by simp)).trans (heap_alloc_new w _)
    have r0 : w1.cell? ⟨w.heap.size, 0, .none⟩ = some (.int .i64 0) := rowCells hh 0
    have r1 : w1.cell? ⟨w.heap.size, 1, .none⟩ = some (.int .i64 0) := rowCells hh 1
    have f0 : w1.frozen? ⟨w.heap.size, 0, .none⟩ = false := rowFree hh 0
    have f1 : w1.frozen? ⟨w.heap.size, 1, .none⟩ = false := rowFree hh 1
    have hbw : Below w.heap.size w w1 := ((Below.refl _ _).alloc (Nat.le_refl _) _).trans (hb1.mono (by simp))
    have c0 := (h.below hbw).cell0
    replace x0 := keepF hbw _ _ _ x0
    replace x1 := keepF hbw _ _ _ x1
    have hne : b ≠ w.heap.size := by omega
    generalize l[posB at' l].a = ba at *
    generalize l[posB at' l].n = bn at *
    generalize posB at' l = p at *
    clear hh ha
    go_wp2
    exact bodyPost_ret (v := .tuple #[.agg #[.int .i64 ba, .int .i64 bn], .bool true]) (by simp [results, Try.results15, go_sem, r0, r1, hz]) rfl ⟨by rw [hfin.out], ((hbw.setCell (Nat.le_refl _) _).setCell (Nat.le_refl _) _)⟩
  · have hf' : foundB at' l = false := by simpa using hf
    have hfin : Hid (blkV (atB l at') = .tuple #[.agg #[.int .i64 0, .int .i64 0], .bool false]) := by
      show _ = _
      unfold atB; rw [if_neg hf]; rfl
    go_enter Try.func15, Try.ntmps15
    go_wp2_with fail
    refine (find_any (ha _) at').mono ?_
    rintro e w1 ⟨rfl, hb1⟩
    rw [hf']
    have hz : w.heap.size < w1.heap.size := by have := hb1.size; simp at this; omega
    have hh : w1.heap[w.heap.size]? = some (.cells #[.int .i64 0, .int .i64 0] 52 (0, 0)) := (hb1.block _ (by simp)).trans (heap_alloc_new w _)
    have r0 : w1.cell? ⟨w.heap.size, 0, .none⟩ = some (.int .i64 0) := rowCells hh 0
    have r1 : w1.cell? ⟨w.heap.size, 1, .none⟩ = some (.int .i64 0) := rowCells hh 1
    have f0 : w1.frozen? ⟨w.heap.size, 0, .none⟩ = false := rowFree hh 0
    have f1 : w1.frozen? ⟨w.heap.size, 1, .none⟩ = false := rowFree hh 1
    have hbw : Below w.heap.size w w1 := ((Below.refl _ _).alloc (Nat.le_refl _) _).trans (hb1.mono (by simp))
    generalize posB at' l = p at *
    clear hh ha
    go_wp2
    exact bodyPost_ret (v := .tuple #[.agg #[.int .i64 0, .int .i64 0], .bool false]) (by simp [results, Try.results15, go_sem, r0, r1, hz]) rfl ⟨by rw [hfin.out], ((hbw.setCell (Nat.le_refl _) _).setCell (Nat.le_refl _) _)⟩
end Go.Proofs.Ytclidckjnoafcaa
