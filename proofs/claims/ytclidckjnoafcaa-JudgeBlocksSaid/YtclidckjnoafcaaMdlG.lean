/- The walks of package model: Give. -/
import Derived.Test.YtclidckjnoafcaaMdlI

namespace Go.Proofs.Ytclidckjnoafcaa

open Go.RowKit

attribute [local go_sem ↓] Go.wp_at_zero Go.wp_at_succ

attribute [local go_sem high] run_cut_l

section

variable {P : Program} {w : World}

/-- append where there is room, into a row that is known whole. -/
theorem step_append_room_rd {ops : Array Oper} {o : Oper} {a : Act} {K : Act → World → Prop} {Q : Exit → Act → World → Prop} {E : Prop} (hgd : o.guard = none) (s x : Operand) (t : TypeId)
    (ho : o.op = .call { callee := .builtin .append, args := #[s, x], argTypes := #[t, t] }) (e : TypeId) (i : TypeInfo) (sz : Nat) (ht : P.underlying t = some (.slice e)) (hi : P.info? e = some i) (hsize : i.size = sz) (hsz0 : 0 < sz)
    (g n cap : Nat) (hs : a.eval s = .slice (some ⟨g, 0, .none⟩) n cap) (cur : List Value) (hg : w.heap[g]? = some (.cells cur.toArray e (0, 0)))
    (u : Value) (hx : a.eval x = u) (m : Nat) (news : List Value) (hr : RdS w sz u m news) (h1 : ∀ u ∈ news, u.oneCell' = true) (hroom : n + m ≤ cap) (hfit : n * sz + m * sz ≤ cur.length)
    (h : ∀ w', w'.heap[g]? = some (.cells (laid cur (n * sz) news).toArray e (0, 0)) → w.grownBy w' (some g) → K (a.put o.dst (.slice (some ⟨g, 0, .none⟩) (n + m) cap)) w') :
    if Region.wanted o (yielded ops a.tmps) = true then Oper.wp P o a w K Q else E := by
  have hw : Region.wanted o (yielded ops a.tmps) = true := by simp [Region.wanted, hgd]
  rw [if_pos hw]
  obtain ⟨ao, c, rfl, hc1, hc2, hl, hrow⟩ := hr
  subst hsize
  have hrun : ∃ w', (Builtin.append_ #[t, t] o.type #[.slice (some ⟨g, 0, .none⟩) n cap, .slice ao m c]).run P w = .ok (.slice (some ⟨g, 0, .none⟩) (n + m) cap) w' ∧ w'.heap[g]? = some (.cells (laid cur (n * i.size) news).toArray e (0, 0)) ∧ w.grownBy w' (some g) := by
    rcases Nat.eq_zero_or_pos m with h0 | h0
    · subst h0
      have hn : news = [] := List.eq_nil_of_length_eq_zero (by simpa using hl)
      subst hn
      refine ⟨w, ?_, by rw [laid_nil]; exact hg, World.grownBy.refl w _⟩
      have hnc : n ≤ cap := by omega
      cases ao <;> simp [Builtin.append_, run_underlying ht, sizeOf, typeInfo, hi, Builtin.lenOf, Builtin.firstCells, hnc, storeCells, loadCells, loadCellsFrom]
    · obtain ⟨b, off, rfl, _, hcs⟩ := hrow (by omega)
      have hrm := run_append_room (P := P) w t o.type e i ht hi g n cap cur.toArray hg ⟨b, off, .none⟩ m c news hl (fun j u hu => by rw [add_flat, ← hu]; exact hcs j (by have := (List.getElem?_eq_some_iff.1 hu).1; omega)) h1 hroom (by rw [hl]; simpa using hfit)
      exact ⟨_, hrm, by simpa [laid, hl] using setRow_heap w g cur.toArray _ e _ hg, setRow_grown w g _⟩
  obtain ⟨w', hrun, h2, h3⟩ := hrun
  unfold Oper.wp execOp
  simp only [ho, resolve, invoke, builtin, Sem.run_bind, Sem.run_pure, Result.andThen_ok, List.map_toArray, List.map_cons, List.map_nil, hs, hx, hrun]
  exact h w' h2 h3
end

/-- A row that is owned, from its block. -/
theorem own_of_block {w : World} {B : Nat} {E : TypeId} {g n cap : Nat} {cur : List Value} {xs : List Value} (hB : B ≤ g) (hg : w.heap[g]? = some (.cells cur.toArray E (0, 0))) (hn : n ≤ cap) (hc : cap ≤ maxLen) (hl : cur.length = cap * 2) (hx : cur.take (n * 2) = xs) :
    w.ownsRow B E 2 (.slice (some ⟨g, 0, .none⟩) n cap) n xs := by
  refine ⟨?_, .inr ⟨g, cap, cur.toArray, rfl, hB, hg, hn, hc, by simpa using hl, by simpa using hx⟩⟩
  rw [← hx, List.length_take]
  have := Nat.mul_le_mul_right 2 hn
  omega

set_option maxHeartbeats 1000000 in
theorem delete_any {B : Nat} {w : World} {g n cap i : Nat} {l : List Bk} (ho : w.ownsRow B 52 2 (.slice (some ⟨g, 0, .none⟩) n cap) n (flatB l)) (hn : n = l.length) (hi : i < n) (hlen : n ≤ 4096) :
    Calls Try.prog 46 #[.slice (some ⟨g, 0, .none⟩) n cap, .int .i64 i, .int .i64 ((i : Int) + 1)] w fun e w' =>
      e = .returned (.slice (some ⟨g, 0, .none⟩) (n - 1) cap) ∧ w'.ownsRow B 52 2 (.slice (some ⟨g, 0, .none⟩) (n - 1) cap) (n - 1) (flatB (l.take i ++ l.drop (i + 1))) ∧ w.grownBy w' (some g) := by
  rcases ho.2 with ⟨h, _⟩ | ⟨g', cap', cur, e, hBg, hg, hnc, hcm, hcs, htake⟩
  · cases h
  injection e with e1 _ e3
  injection e1 with e1
  injection e1 with e1
  subst e1 e3
  obtain ⟨cl, rfl⟩ : ∃ cl : List Value, cur = cl.toArray := ⟨cur.toList, by simp⟩
  have htake : cl.take (n * 2) = flatB l := by simpa using htake
  have hcs : cl.length = cap * 2 := by simpa using hcs
  have hcm' : (cap : Int) ≤ 9223372036854775807 := by simp only [maxLen] at hcm; omega
  have hrd : RdS w 2 (.slice (some ⟨g, 0, .none⟩) n cap) n (flatB l) := RdS.of_own ho
  have hsrc := hrd.cut (l := i + 1) (h := n) (by omega) (Nat.le_refl _)
  rw [flatB_drop] at hsrc
  have hlen2 : (l.drop (i + 1)).length = n - (i + 1) := by rw [List.length_drop, ← hn]
  rw [List.take_of_length_le (by rw [flatB_length, hlen2]; exact Nat.le_refl _)] at hsrc
  obtain ⟨L1, hL1⟩ : ∃ L1, L1 = laid cl (i * 2) (flatB (l.drop (i + 1))) := ⟨_, rfl⟩
  have hl1 : L1.length = cap * 2 := by rw [hL1, laid_length (by rw [flatB_length, hlen2]; omega)]; exact hcs
  have ht1 : L1.take ((n - 1) * 2) = flatB (l.take i ++ l.drop (i + 1)) := by
    have e1 : cl.take (i * 2) = flatB (l.take i) := by
      rw [← flatB_take, ← htake, List.take_take, Nat.min_eq_left (by omega)]
    have e2 : (flatB (l.take i) ++ flatB (l.drop (i + 1))).length = (n - 1) * 2 := by
      rw [← flatB_append, flatB_length, List.length_append, List.length_take, hlen2]; omega
    rw [hL1]
    unfold laid
    rw [e1, flatB_append, ← e2, List.take_left]
  have hfin : ∀ (w' : World) (cs : List Value), cs.length = 1 * 2 → w'.heap[g]? = some (.cells (laid L1 ((n - 1) * 2) cs).toArray 52 (0, 0)) → w'.ownsRow B 52 2 (.slice (some ⟨g, 0, .none⟩) (n - 1) cap) (n - 1) (flatB (l.take i ++ l.drop (i + 1))) := fun w' cs h1 h2 => by
    refine own_of_block hBg h2 (by omega) hcm (by rw [laid_length (by omega)]; exact hl1) ?_
    unfold laid
    rw [List.append_assoc, List.take_append, List.length_take, Nat.min_eq_left (by omega), Nat.sub_self, List.take_zero, List.append_nil, List.take_take, Nat.min_self, ht1]
  replace hL1 := Lib.hid hL1
  replace hfin := Lib.hid hfin
  have hgh := Lib.hid hg
  have hi0 : (0 : Int) ≤ (i : Int) := by omega
  have hin : (i : Int) + 1 ≤ (n : Int) := by omega
  have hnc' : (n : Int) ≤ (cap : Int) := by omega
  have hic : (i : Int) ≤ (cap : Int) := by omega
  have hne : ((i : Int) == (i : Int) + 1) = false := by rw [beq_eq_false_iff_ne]; omega
  have hw1 : ((i : Int) + 1).toNat = i + 1 := by omega
  have hw2 : (0 : Int) ≤ (i : Int) + 1 := by omega
  obtain ⟨i0, hi0', hz0, hz1, hz2⟩ := info_parts infoBk
  clear ht1 hg htake hrd ho
  replace hn := Lib.hid hn
  replace hl1 := Lib.hid hl1
  replace hcs := Lib.hid hcs
  clear hlen2
  go_enter Try.func46, Try.ntmps46
  go_wp2
  go_region_held3 (fun _ => True) (trivial)
    ((refine step_append_room_rd (by rfl) (.tmp 22) (.tmp 25) 49 (by rfl) 52 i0 2 Try.underlying49 hi0' hz1 (by omega) g i cap (by rfl) cl (show w.drew.heap[g]? = _ from hgh.out)
        _ (by rfl) (n - (i + 1)) _ hsrc.drew (flatB_one _) (by omega) (by rw [hcs.out]; omega) ?_; intro w1 hg1 hgr1))
  rw [← hL1.out] at hg1
  have hn1 : i + (n - (i + 1)) = n - 1 := by omega
  have hgr1 : w.grownBy w1 (some g) := ⟨hgr1.os, hgr1.tape, hgr1.output, hgr1.size, hgr1.block⟩
  have hn2 : ((i + (n - (i + 1)) : Nat) : Int) = (n : Int) - 1 := by omega
  have hn3 : (0 : Int) ≤ (n : Int) - 1 := by omega
  have hn4 : ((n : Int) - 1).toNat = n - 1 := by omega
  have hn5 : (n : Int) - 1 ≤ (n : Int) := by omega
  rw [hn1]
  replace hg1 := Lib.hid hg1
  have hn6 : n - (n - 1) = 1 := by omega
  go_wp2_with (refine wpList_clear_rd rfl (.tmp 31) 49 rfl 52 i0 _ 2 Try.underlying49 hi0' hz0 rfl (by simp [Value.cells, Value.oneCell']) (by omega) (some ⟨g, (n - 1) * 2, .none⟩) 1 (cap - (n - 1)) rfl g ((n - 1) * 2) L1 52 hg1.out (fun _ => rfl) (by rw [hl1.out]; omega) ?_; intro w2 cs hcs2 hg2 hgr2)
  go_ret
  exact ⟨rfl, hfin.out w2 cs hcs2 hg2, ⟨hgr2.os.trans hgr1.os, hgr2.tape.trans hgr1.tape, hgr2.output.trans hgr1.output, Nat.le_trans hgr1.size hgr2.size, fun k hk hne => (hgr2.block k (by have := hgr1.size; omega) hne).trans (hgr1.block k hk hne)⟩⟩

set_option maxHeartbeats 1000000 in
theorem give_any {B s : Nat} {w : World} {sl : Value} {W : Int} {l : List Bk} (h : PM B w s sl W l) (at' : Int) :
    Calls Try.prog 38 #[.pointer (some ⟨s, 0, .none⟩), .int .i64 at'] w fun e w' => e = .returned (.bool (foundB at' l)) ∧ ∃ sl', PM B w' s sl' W (giveB l at') ∧ Only (foot s sl) w w' ∧ (∀ k, foot s sl' k → foot s sl k) := by
  have c0 := h.cell0
  have hlen := h.len
  have hok := giveB_ok (at' := at') h.ok
  by_cases hf : foundB at' l = true
  · obtain ⟨hp, he⟩ := (foundB_iff at' l).1 hf
    rw [hf]
    have hgl : giveB l at' = l.take (posB at' l) ++ l.drop (posB at' l + 1) := by unfold giveB dropB; rw [if_pos hf]
    rcases h.owns.2 with ⟨_, h0⟩ | ⟨g, cap, cur, rfl, hBg, _, _, _⟩
    · omega
    obtain ⟨n, hn, hn'⟩ : ∃ n, Hid (n = l.length) ∧ n = l.length := ⟨_, Lib.hid rfl, rfl⟩
    have hgs : g ≠ s := fun e => h.apart (by rw [e]; rfl)
    have hns := h.lt
    rw [← hn'] at c0 hlen hp h ⊢
    have hown : w.ownsRow B 52 2 (.slice (some ⟨g, 0, .none⟩) n cap) n (flatB l) := by rw [hn']; have := h.owns; rw [hn'] at this; exact this
    have hfr := h.free
    have hhd := h.head
    have hsm := h.small
    have hlies := h.lies
    clear hn' he
    go_enter Try.func38, Try.ntmps38
    go_wp2_with fail
    refine (find_any h at').mono ?_
    rintro e w1 ⟨rfl, hb1⟩
    rw [hf]
    have h1 := h.below hb1
    have hown1 : w1.ownsRow B 52 2 (.slice (some ⟨g, 0, .none⟩) n cap) n (flatB l) := by have := h1.owns; rw [← hn.out] at this; exact this
    have c01 := h1.cell0
    have hs1 := hb1.size
    go_wp2_with fail
    refine (delete_any hown1 hn.out hp hlen).mono ?_
    rintro e w2 ⟨rfl, ho2, hg2⟩
    have hh2 : w2.heap[s]? = some (.cells #[.slice (some ⟨g, 0, .none⟩) n cap, .int .i64 W] 66 (0, 0)) := (hg2.block s h1.lt (by simpa using fun e => hgs e.symm)).trans h1.head
    have c02 : w2.cell? ⟨s, 0, .none⟩ = some (.slice (some ⟨g, 0, .none⟩) n cap) := rowCells hh2 0
    have f02 := rowFree hh2 0
    have hO : Only (foot s (.slice (some ⟨g, 0, .none⟩) n cap)) w (w2.setCell ⟨s, 0, .none⟩ (.slice (some ⟨g, 0, .none⟩) (n - 1) cap)) :=
      ((Only.of_below hb1).grown hg2 (fun k hk => .inl (.inr hk))).setCell (.inl (.inl rfl)) _
    have hP : PM B (w2.setCell ⟨s, 0, .none⟩ (.slice (some ⟨g, 0, .none⟩) (n - 1) cap)) s (.slice (some ⟨g, 0, .none⟩) (n - 1) cap) W (giveB l at') := by
      refine ⟨h.lies, ?_, ?_, h.apart, hok, h.small⟩
      · rw [heap_setCell_same w2 s 0 _ _ _ hh2]; rfl
      · have hl2 : (giveB l at').length = n - 1 := by rw [hgl, List.length_append, List.length_take, List.length_drop, ← hn.out]; omega
        rw [hl2, hgl]
        exact ownsRow_of_blocks ho2 (fun k hk => heap_setCell_other w2 ⟨s, 0, .none⟩ k _ (fun e => hgs (by simpa [Value.ownBlock, e] using hk)))
    clear hh2 hgl hok
    go_wp2
    go_ret
    exact ⟨rfl, _, hP, hO, fun k hk => hk⟩
  · have hf' : foundB at' l = false := by simpa using hf
    have hgl : giveB l at' = l := by unfold giveB; rw [if_neg hf]
    rw [hgl, hf']
    go_enter Try.func38, Try.ntmps38
    go_wp2_with fail
    refine (find_any h at').mono ?_
    rintro e w1 ⟨rfl, hb1⟩
    rw [hf']
    go_wp2
    go_ret
    exact ⟨rfl, _, h.below hb1, Only.of_below hb1, fun k hk => hk⟩
end Go.Proofs.Ytclidckjnoafcaa
