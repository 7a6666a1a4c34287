/- The walks of package model: Inside, Blocks. -/
import Derived.Test.YtpplmgahpohbmabMdlW
namespace Go.Proofs.Ytpplmgahpohbmab
open Go.RowKit
attribute [local go_sem ↓] Go.wp_at_zero Go.wp_at_succ

/-- The block in which a word is, by where it would stand. -/
def inB (l : List Bk) (at' : Int) : Option Bk :=
  if foundB at' l then l[posB at' l]? else if posB at' l = 0 then none else match l[posB at' l - 1]? with | some b => if at' - b.a < b.n then some b else none | none => none
theorem find_unique {l : List Bk} {p : Bk → Bool} (i : Nat) (hi : i < l.length) (hp : p l[i] = true) (ho : ∀ j (hj : j < l.length), j < i → p l[j] = false) : l.find? p = some l[i] := by
  induction l generalizing i with
  | nil => simp at hi
  | cons b l ih =>
    cases i with
    | zero =>
      have hp' : p b = true := hp
      rw [List.find?_cons_of_pos hp']; rfl
    | succ i =>
      have h0 : p b = false := ho 0 (by simp) (by omega)
      rw [List.find?_cons_of_neg (by simp [h0])]
      exact ih i (by simpa using hi) hp (fun j hj hji => ho (j + 1) (by simpa using hj) (by omega))
theorem inB_eq {W lo at' : Int} {l : List Bk} (h : okB W lo l) : inB l at' = insideB l at' := by
  have hp := posB_le at' l
  unfold inB insideB
  by_cases hf : foundB at' l = true
  · obtain ⟨h1, h2⟩ := (foundB_iff at' l).1 hf
    rw [if_pos hf, List.getElem?_eq_getElem h1]
    have hm := h.mem _ (List.getElem_mem h1)
    refine (find_unique _ h1 (by simp only [decide_eq_true_eq]; omega) (fun j hj hji => ?_)).symm
    have := h.lt j _ hji h1
    simp only [decide_eq_false_iff_not]
    omega
  · rw [if_neg hf]
    have hnf : ∀ b ∈ l, b.a ≠ at' := fun b hb e => hf ((foundB_mem h).2 ⟨b, hb, e⟩)
    have hno : ∀ (j : Nat) (hj : j < l.length), j ≠ posB at' l - 1 ∨ posB at' l = 0 → ¬ (l[j].a ≤ at' ∧ at' < l[j].a + l[j].n) := fun j hj hne ⟨e1, e2⟩ => by
      rcases Nat.lt_or_ge j (posB at' l) with h1 | h1
      · have h3 : posB at' l - 1 < l.length := by omega
        have h4 := posB_below at' l (posB at' l - 1) (by omega) h3
        have h5 := h.lt j (posB at' l - 1) (by omega) h3
        omega
      · have h4 := posB_from h j h1 hj
        exact hnf _ (List.getElem_mem hj) (by omega)
    by_cases h0 : posB at' l = 0
    · rw [if_pos h0]
      refine (List.find?_eq_none.2 (fun b hb => ?_)).symm
      obtain ⟨j, hj, rfl⟩ := List.getElem_of_mem hb
      simp only [decide_eq_true_eq]
      exact hno j hj (.inr h0)
    · rw [if_neg h0]
      have h3 : posB at' l - 1 < l.length := by omega
      have h4 := posB_below at' l (posB at' l - 1) (by omega) h3
      rw [List.getElem?_eq_getElem h3]
      simp only
      by_cases hd : at' - l[posB at' l - 1].a < l[posB at' l - 1].n
      · rw [if_pos hd]
        refine (find_unique _ h3 (by simp only [decide_eq_true_eq]; omega) (fun j hj hji => ?_)).symm
        simp only [decide_eq_false_iff_not]
        exact hno j hj (.inl (by omega))
      · rw [if_neg hd]
        refine (List.find?_eq_none.2 (fun b hb => ?_)).symm
        obtain ⟨j, hj, rfl⟩ := List.getElem_of_mem hb
        simp only [decide_eq_true_eq]
        by_cases hje : j = posB at' l - 1
        · simp only [hje]; omega
        · exact hno j hj (.inl hje)

set_option maxHeartbeats 1000000 in
theorem inside_any {B s : Nat} {w : World} {sl : Value} {W : Int} {l : List Bk} (h : PM B w s sl W l) (at' : Int) (ha0 : -9223372036854775808 ≤ at') (ha1 : at' ≤ 9223372036854775807) :
    Calls Try.prog 17 #[.pointer (some ⟨s, 0, .none⟩), .int .i64 at'] w fun e w' => e = .returned (blkV (insideB l at')) ∧ Below w.heap.size w w' := by
  rw [← inB_eq h.ok]
  have ha : ∀ o, PM B (w.alloc o) s sl W l := fun o => h.below ((Below.refl _ _).alloc (Nat.le_refl _) _)
  obtain ⟨ao, cap, rfl, hcap, hcm, hrow⟩ := h.rd.nth
  have hlen := h.len
  have hs := h.small
  have hpl := posB_le at' l
  have hmem := h.ok.mem
  obtain ⟨n, hn, hn'⟩ : ∃ n, Hid (n = l.length) ∧ n = l.length := ⟨_, Lib.hid rfl, rfl⟩
  have hc0 : ∀ w1, Below w.heap.size w w1 → w1.cell? ⟨s, 0, .none⟩ = some (.slice ao n cap) := fun w1 hb => by rw [hn']; exact (h.below hb).cell0
  rw [← hn'] at hcap hlen hpl
  clear hn'
  have hgo : ∀ w1, Below (w.alloc (.cells #[.int .i64 0, .int .i64 0] 32)).heap.size (w.alloc (.cells #[.int .i64 0, .int .i64 0] 32)) w1 →
      w.heap.size < w1.heap.size ∧ w1.cell? ⟨w.heap.size, 0, .none⟩ = some (.int .i64 0) ∧ w1.cell? ⟨w.heap.size, 1, .none⟩ = some (.int .i64 0) ∧ w1.frozen? ⟨w.heap.size, 0, .none⟩ = false ∧ w1.frozen? ⟨w.heap.size, 1, .none⟩ = false ∧ Below w.heap.size w w1 := fun w1 hb1 => by
    have hh : w1.heap[w.heap.size]? = some (.cells #[.int .i64 0, .int .i64 0] 32 (0, 0)) := (hb1.block _ (by simp)).trans (heap_alloc_new w _)
    exact ⟨(Array.getElem?_eq_some_iff.1 hh).1, rowCells hh 0, rowCells hh 1, rowFree hh 0, rowFree hh 1, ((Below.refl _ _).alloc (Nat.le_refl _) _).trans (hb1.mono (by simp))⟩
  replace hgo := Lib.hid hgo
  replace hc0 := Lib.hid hc0
  by_cases hf : foundB at' l = true
  · obtain ⟨hp, he⟩ := (foundB_iff at' l).1 hf
    obtain ⟨b, off, rfl, hb, hc⟩ := hrow (fun e => by rw [e] at hp; simp at hp)
    obtain ⟨x0, x1⟩ := hc _ hp
    have hfin : Hid (blkV (inB l at') = .tuple #[.agg #[.int .i64 l[posB at' l].a, .int .i64 l[posB at' l].n], .bool true]) := by
      show _ = _
      unfold inB; rw [if_pos hf, List.getElem?_eq_getElem hp]; rfl
    have hpI : ((posB at' l : Nat) : Int) < (n : Int) := by have := hn.out; omega
    have hp0 : (0 : Int) ≤ ((posB at' l : Nat) : Int) := by omega
    clear hc hrow he hmem
    go_enter Try.func17, Try.ntmps17
    go_wp2_with fail
    refine (find_any (ha _) at').mono ?_
    rintro e w1 ⟨rfl, hb1⟩
    rw [hf]
    obtain ⟨hz, r0, r1, f0, f1, hbw⟩ := hgo.out w1 hb1
    have c0 := hc0.out w1 hbw
    replace x0 := keepF hbw _ _ _ x0
    replace x1 := keepF hbw _ _ _ x1
    have hne : b ≠ w.heap.size := by omega
    generalize l[posB at' l].a = ba at *
    generalize l[posB at' l].n = bn at *
    generalize posB at' l = p at *
    clear ha
    go_wp2
    exact bodyPost_ret (v := .tuple #[.agg #[.int .i64 ba, .int .i64 bn], .bool true]) (by simp [results, Try.results17, go_sem, r0, r1, hz]) rfl ⟨by rw [hfin.out], ((hbw.setCell (Nat.le_refl _) _).setCell (Nat.le_refl _) _)⟩
  · have hf' : foundB at' l = false := by simpa using hf
    by_cases h0 : posB at' l = 0
    · have hfin : Hid (blkV (inB l at') = .tuple #[.agg #[.int .i64 0, .int .i64 0], .bool false]) := by
        show _ = _
        unfold inB; rw [if_neg hf, if_pos h0]; rfl
      go_enter Try.func17, Try.ntmps17
      go_wp2_with fail
      refine (find_any (ha _) at').mono ?_
      rintro e w1 ⟨rfl, hb1⟩
      rw [hf', h0]
      obtain ⟨hz, r0, r1, f0, f1, hbw⟩ := hgo.out w1 hb1
      have c0 := hc0.out w1 hbw
      clear ha
      go_wp2
      go_quiet (fail)
      go_wp2
      exact bodyPost_ret (v := .tuple #[.agg #[.int .i64 0, .int .i64 0], .bool false]) (by simp [results, Try.results17, go_sem, r0, r1, hz]) rfl ⟨by rw [hfin.out], (((below_drewN hbw _).setCell (Nat.le_refl _) _).setCell (Nat.le_refl _) _)⟩
    · have h3 : posB at' l - 1 < l.length := by have := hn.out; omega
      obtain ⟨b, off, rfl, hb, hc⟩ := hrow (fun e => by rw [e] at h3; simp at h3)
      obtain ⟨x0, x1⟩ := hc _ h3
      have hm := hmem _ (List.getElem_mem h3)
      have hfin : Hid (blkV (inB l at') = if at' - l[posB at' l - 1].a < l[posB at' l - 1].n then .tuple #[.agg #[.int .i64 l[posB at' l - 1].a, .int .i64 l[posB at' l - 1].n], .bool true] else .tuple #[.agg #[.int .i64 0, .int .i64 0], .bool false]) := by
        show _ = _
        unfold inB; rw [if_neg hf, if_neg h0, List.getElem?_eq_getElem h3]
        simp only
        split <;> rfl
      have hb4 := posB_below at' l (posB at' l - 1) (by omega) h3
      obtain ⟨p, hp⟩ : ∃ p, posB at' l = p + 1 := ⟨posB at' l - 1, by omega⟩
      simp only [hp, Nat.add_sub_cancel] at x0 x1 hm hfin hb4
      have hpn : p < n := by omega
      have hpI : (p : Int) < (n : Int) := by omega
      have hp0 : (0 : Int) ≤ (p : Int) := by omega
      have hpe : ((p + 1 : Nat) : Int) - 1 = (p : Int) := by omega
      have hwp : IntKind.i64.wrap ((p : Int) + 1 - 1) = (p : Int) := by rw [show (p : Int) + 1 - 1 = (p : Int) from by omega, IntKind.wrap_i64]; omega
      have hz0 : (((p : Int) + 1) == 0) = false := by rw [beq_eq_false_iff_ne]; omega
      generalize l[p].a = ba at *
      generalize l[p].n = bn at *
      clear hc hrow hmem
      have hwd : IntKind.i64.wrap (at' - ba) = at' - ba := by rw [IntKind.wrap_i64]; omega
      by_cases hd : at' - ba < bn
      · have hdd : decide (bn ≤ at' - ba) = false := decide_eq_false (by omega)
        rw [if_pos hd] at hfin
        go_enter Try.func17, Try.ntmps17
        go_wp2_with fail
        refine (find_any (ha _) at').mono ?_
        rintro e w1 ⟨rfl, hb1⟩
        rw [hf', hp]
        obtain ⟨hz, r0, r1, f0, f1, hbw⟩ := hgo.out w1 hb1
        have c0 := hc0.out w1 hbw
        replace x0 := keepF hbw _ _ _ x0
        replace x1 := keepF hbw _ _ _ x1
        have hne : b ≠ w.heap.size := by omega
        clear ha hp
        go_wp2
        go_quiet (fail)
        go_wp2
        exact bodyPost_ret (v := .tuple #[.agg #[.int .i64 ba, .int .i64 bn], .bool true]) (by simp [results, Try.results17, go_sem, r0, r1, hz]) rfl ⟨by rw [hfin.out], (((below_drewN hbw _).setCell (Nat.le_refl _) _).setCell (Nat.le_refl _) _)⟩
      · have hdd : decide (bn ≤ at' - ba) = true := decide_eq_true (by omega)
        rw [if_neg hd] at hfin
        go_enter Try.func17, Try.ntmps17
        go_wp2_with fail
        refine (find_any (ha _) at').mono ?_
        rintro e w1 ⟨rfl, hb1⟩
        rw [hf', hp]
        obtain ⟨hz, r0, r1, f0, f1, hbw⟩ := hgo.out w1 hb1
        have c0 := hc0.out w1 hbw
        replace x0 := keepF hbw _ _ _ x0
        replace x1 := keepF hbw _ _ _ x1
        have hne : b ≠ w.heap.size := by omega
        clear ha hp
        go_wp2
        go_quiet (fail)
        go_wp2
        exact bodyPost_ret (v := .tuple #[.agg #[.int .i64 0, .int .i64 0], .bool false]) (by simp [results, Try.results17, go_sem, r0, r1, hz]) rfl ⟨by rw [hfin.out], (((below_drewN hbw _).setCell (Nat.le_refl _) _).setCell (Nat.le_refl _) _)⟩

theorem infoBk : (Try.prog.info? 32).map (fun i => (i.zero, i.size, i.bytes)) = some (some (.agg #[.int .i64 0, .int .i64 0]), 2, 16) := by kernel_rfl

/-- A copy of a row of blocks. -/
theorem clone_any (l : List Bk) (v : Value) (w : World) (hr : RdK w v l) (hlen : l.length ≤ 4096) :
    Calls Try.prog 28 #[v] w fun e w' => ∃ v', e = .returned v' ∧ Below w.heap.size w w' ∧ w'.ownsRow w.heap.size 32 2 v' l.length (flatB l) := by
  obtain ⟨ao, cap, rfl, hcap, hcm, hl, hrow⟩ := id hr
  have heq : ∀ W : World, (binOp .eql 39 (.slice ao l.length cap) (.slice none 0 0)).run Try.prog W = .ok (.bool ao.isNone) W := fun W => Lib.run_eql_slice_nil W _ _ ao _ _ _ _ Try.underlying39
  rcases ao with _ | ad
  · have hn : l = [] := by
      rcases l with _ | ⟨b, l⟩
      · rfl
      · obtain ⟨_, _, h, _⟩ := hrow (by simp); cases h
    subst hn
    replace heq : ∀ W : World, (binOp .eql 39 (.slice none 0 cap) (.slice none 0 0)).run Try.prog W = .ok (.bool true) W := heq
    show Calls Try.prog 28 #[.slice none 0 cap] w _
    go_enter Try.func28, Try.ntmps28
    go_wp2
    go_ret
    exact ⟨_, rfl, Below.refl _ _, ⟨rfl, .inl ⟨rfl, rfl⟩⟩⟩
  · obtain ⟨i0, hi0, hz0, hz1, hz2⟩ := info_parts infoBk
    have own0 : (w.alloc (.cells #[] 32)).ownsRow w.heap.size 32 2 (.slice (some ⟨w.heap.size, 0, .none⟩) 0 0) 0 [] := World.ownsRow_lit w #[] 0 (Nat.le_refl _) (Nat.zero_le _) rfl
    have hr1 : RdS (w.alloc (.cells #[] 32)) 2 (.slice (some ad) l.length cap) l.length (flatB l) := RdS.alloc hr _
    go_enter Try.func28, Try.ntmps28
    go_wp2_with (refine wpList_append_rd rfl (.tmp 5) (.tmp 6) 39 rfl w.heap.size 32 i0 _ 2 16 Try.underlying39 hi0 hz0 hz1 hz2 rfl (by omega) _ 0 [] rfl own0 _ l.length (flatB l) rfl hr1 (flatB_one _) (by simp only [maxLen]; omega) (by omega) (by simp) ?_; intro v1 w1 hown1 hgrow1 hat1; have hb1 := grown_belowS ((Below.refl w.heap.size w).alloc (Nat.le_refl _) _) own0 (by simp) hgrow1)
    go_ret
    rw [Nat.zero_add, List.nil_append] at hown1
    exact ⟨_, rfl, hb1, hown1⟩
theorem blocks_any {B s : Nat} {w : World} {sl : Value} {W : Int} {l : List Bk} (h : PM B w s sl W l) :
    Calls Try.prog 16 #[.pointer (some ⟨s, 0, .none⟩)] w fun e w' => ∃ v', e = .returned v' ∧ Below w.heap.size w w' ∧ w'.ownsRow w.heap.size 32 2 v' l.length (flatB l) := by
  have c0 := h.cell0
  go_enter Try.func16, Try.ntmps16
  go_wp2_with (go_at_call 28; refine (clone_any l sl _ h.rd h.len).mono ?_; rintro e w1 ⟨v1, rfl, hb1, ho1⟩)
  go_ret
  exact ⟨_, rfl, hb1, ho1⟩
end Go.Proofs.Ytpplmgahpohbmab
