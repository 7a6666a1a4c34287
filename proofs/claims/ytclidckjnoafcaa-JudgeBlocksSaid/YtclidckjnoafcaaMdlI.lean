/- The walks of package model: Inside, Blocks. -/
import Derived.Test.YtclidckjnoafcaaMdlW

namespace Go.Proofs.Ytclidckjnoafcaa

open Go.RowKit

attribute [local go_sem ↓] Go.wp_at_zero Go.wp_at_succ

/-- The block in which a word is, by where it would stand. -/
def inB (l : List Bk) (at' : Int) : Option Bk :=
  if foundB at' l then l[posB at' l]? else if posB at' l = 0 then none else match l[posB at' l - 1]? with | some b => if at' - b.a < b.n then some b else none | none => none
theorem find_unique {l : List Bk} {p : Bk → Bool} (i : Nat) (hi : i < l.length) (hp : p l[i] = true) (ho : ∀ j (hj : j < l.length), j < i → p l[j] = false) : l.find? p = some l[i] := by
  induction l generalizing i with
  | nil => simp at hi
  | cons b l ih =>
    cases i with
    | zero =>
      have hp' : p b = true := hp
      rw [List.find?_cons_of_pos hp']; rfl
    | succ i =>
      have h0 : p b = false := ho 0 (by simp) (by omega)
      rw [List.find?_cons_of_neg (by simp [h0])]
      exact ih i (by simpa using hi) hp (fun j hj hji => ho (j + 1) (by simpa using hj) (by omega))
theorem inB_eq {W lo at' : Int} {l : List Bk} (h : okK W lo l) : inB l at' = insideB l at' := by
  have hp := posB_le at' l
  unfold inB insideB
  by_cases hf : foundB at' l = true
  · obtain ⟨h1, h2⟩ := (foundB_iff at' l).1 hf
    rw [if_pos hf, List.getElem?_eq_getElem h1]
    have hm := h.mem _ (List.getElem_mem h1)
    refine (find_unique _ h1 (by simp only [decide_eq_true_eq]; omega) (fun j hj hji => ?_)).symm
    have := h.lt j _ hji h1
    simp only [decide_eq_false_iff_not]
    omega
  · rw [if_neg hf]
    have hnf : ∀ b ∈ l, b.a ≠ at' := fun b hb e => hf ((foundB_mem h).2 ⟨b, hb, e⟩)
    have hno : ∀ (j : Nat) (hj : j < l.length), j ≠ posB at' l - 1 ∨ posB at' l = 0 → ¬ (l[j].a ≤ at' ∧ at' < l[j].a + l[j].n) := fun j hj hne ⟨e1, e2⟩ => by
      rcases Nat.lt_or_ge j (posB at' l) with h1 | h1
      · have h3 : posB at' l - 1 < l.length := by omega
        have h4 := posB_below at' l (posB at' l - 1) (by omega) h3
        have h5 := h.lt j (posB at' l - 1) (by omega) h3
        omega
      · have h4 := posB_from h j h1 hj
        exact hnf _ (List.getElem_mem hj) (by omega)
    by_cases h0 : posB at' l = 0
    · rw [if_pos h0]
      refine (List.find?_eq_none.2 (fun b hb => ?_)).symm
      obtain ⟨j, hj, rfl⟩ := List.getElem_of_mem hb
      simp only [decide_eq_true_eq]
      exact hno j hj (.inr h0)
    · rw [if_neg h0]
      have h3 : posB at' l - 1 < l.length := by omega
      have h4 := posB_below at' l (posB at' l - 1) (by omega) h3
      rw [List.getElem?_eq_getElem h3]
      simp only
      by_cases hd : at' - l[posB at' l - 1].a < l[posB at' l - 1].n
      · rw [if_pos hd]
        refine (find_unique _ h3 (by simp only [decide_eq_true_eq]; omega) (fun j hj hji => ?_)).symm
        simp only [decide_eq_false_iff_not]
        exact hno j hj (.inl (by omega))
      · rw [if_neg hd]
        refine (List.find?_eq_none.2 (fun b hb => ?_)).symm
        obtain ⟨j, hj, rfl⟩ := List.getElem_of_mem hb
        simp only [decide_eq_true_eq]
        by_cases hje : j = posB at' l - 1
        · simp only [hje]; omega
        · exact hno j hj (.inl hje)

theorem infoBk : (Try.prog.info? 52).map (fun i => (i.zero, i.size, i.bytes)) = some (some (.agg #[.int .i64 0, .int .i64 0]), 2, 16) := by kernel_rfl

/-- A copy of a row of blocks. -/
theorem clone_any (l : List Bk) (v : Value) (w : World) (hr : RdK w v l) (hlen : l.length ≤ 4096) :
    Calls Try.prog 25 #[v] w fun e w' => ∃ v', e = .returned v' ∧ Below w.heap.size w w' ∧ w'.ownsRow w.heap.size 52 2 v' l.length (flatB l) := by
  obtain ⟨ao, cap, rfl, hcap, hcm, hl, hrow⟩ := id hr
  have heq : ∀ W : World, (binOp .eql 49 (.slice ao l.length cap) (.slice none 0 0)).run Try.prog W = .ok (.bool ao.isNone) W := fun W => Lib.run_eql_slice_nil W _ _ ao _ _ _ _ Try.underlying49
  rcases ao with _ | ad
  · have hn : l = [] := by
      rcases l with _ | ⟨b, l⟩
      · rfl
      · obtain ⟨_, _, h, _⟩ := hrow (by simp); cases h
    subst hn
    replace heq : ∀ W : World, (binOp .eql 49 (.slice none 0 cap) (.slice none 0 0)).run Try.prog W = .ok (.bool true) W := heq
    show Calls Try.prog 25 #[.slice none 0 cap] w _
    go_enter Try.func25, Try.ntmps25
    go_wp2
    go_ret
    exact ⟨_, rfl, Below.refl _ _, ⟨rfl, .inl ⟨rfl, rfl⟩⟩⟩
  · obtain ⟨i0, hi0, hz0, hz1, hz2⟩ := info_parts infoBk
    have own0 : (w.alloc (.cells #[] 52)).ownsRow w.heap.size 52 2 (.slice (some ⟨w.heap.size, 0, .none⟩) 0 0) 0 [] := World.ownsRow_lit w #[] 0 (Nat.le_refl _) (Nat.zero_le _) rfl
    have hr1 : RdS (w.alloc (.cells #[] 52)) 2 (.slice (some ad) l.length cap) l.length (flatB l) := RdS.alloc hr _
    go_enter Try.func25, Try.ntmps25
    go_wp2_with (refine wpList_append_rd rfl (.tmp 5) (.tmp 6) 49 rfl w.heap.size 52 i0 _ 2 16 Try.underlying49 hi0 hz0 hz1 hz2 rfl (by omega) _ 0 [] rfl own0 _ l.length (flatB l) rfl hr1 (flatB_one _) (by simp only [maxLen]; omega) (by omega) (by simp) ?_; intro v1 w1 hown1 hgrow1 hat1; have hb1 := grown_belowS ((Below.refl w.heap.size w).alloc (Nat.le_refl _) _) own0 (by simp) hgrow1)
    go_ret
    rw [Nat.zero_add, List.nil_append] at hown1
    exact ⟨_, rfl, hb1, hown1⟩
theorem blocks_any {B s : Nat} {w : World} {sl : Value} {W : Int} {l : List Bk} (h : PM B w s sl W l) :
    Calls Try.prog 14 #[.pointer (some ⟨s, 0, .none⟩)] w fun e w' => ∃ v', e = .returned v' ∧ Below w.heap.size w w' ∧ w'.ownsRow w.heap.size 52 2 v' l.length (flatB l) := by
  have c0 := h.cell0
  go_enter Try.func14, Try.ntmps14
  go_wp2_with (go_at_call 25; refine (clone_any l sl _ h.rd h.len).mono ?_; rintro e w1 ⟨v1, rfl, hb1, ho1⟩)
  go_ret
  exact ⟨_, rfl, hb1, ho1⟩
end Go.Proofs.Ytclidckjnoafcaa
