/- The walks of package model: Take. -/
import Derived.Test.YtclidckjnoafcaaMdlG

namespace Go.Proofs.Ytclidckjnoafcaa

open Go.RowKit

attribute [local go_sem ↓] Go.wp_at_zero Go.wp_at_succ

theorem RdS.of_block {w : World} {g sz off n cap : Nat} {cl : List Value} {t : TypeId} (hg : w.heap[g]? = some (.cells cl.toArray t (0, 0))) (hf : off + n * sz ≤ cl.length) (hn : n ≤ cap) (hc : (cap : Int) ≤ 9223372036854775807) :
    RdS w sz (.slice (some ⟨g, off, .none⟩) n cap) n ((cl.drop off).take (n * sz)) := by
  refine ⟨_, cap, rfl, hn, hc, by rw [List.length_take, List.length_drop]; omega, fun _ => ⟨g, off, rfl, (Array.getElem?_eq_some_iff.1 hg).1, fun i hi => ?_⟩⟩
  rw [cell_of_row w g _ _ t (0, 0) hg, List.getElem?_take, if_pos hi, List.getElem?_drop]
  simp
theorem laid_split {cl a b c : List Value} {off : Nat} (h : cl = a ++ b ++ c) (ha : a.length = off) (cs : List Value) (hb : b.length = cs.length) : laid cl off cs = a ++ cs ++ c := by
  subst h
  unfold laid
  rw [List.append_assoc a b c, List.take_append, ha, Nat.sub_self, List.take_zero, List.append_nil, List.take_of_length_le (by omega), List.drop_append, List.drop_of_length_le (by omega), List.nil_append, ha, Nat.add_sub_cancel_left, List.drop_append, List.drop_of_length_le (by omega), List.nil_append, hb, Nat.sub_self, List.drop_zero]

theorem ins_room {cl A D bc : List Value} {i n : Nat} (hA : A.length = i * 2) (hD : D.length = (n - i) * 2) (hb : bc.length = 2) (hi : i ≤ n) (ht : cl.take (n * 2) = A ++ D) (hl : (n + 1) * 2 ≤ cl.length) :
    (laid (laid cl ((i + 1) * 2) D) (i * 2) bc).take ((n + 1) * 2) = A ++ (bc ++ D) := by
  have h1 : (laid cl ((i + 1) * 2) D).take (i * 2) = A := by
    unfold laid
    rw [List.append_assoc, List.take_append, List.length_take, List.take_take, Nat.min_eq_left (by omega), show i * 2 - min ((i + 1) * 2) cl.length = 0 from by omega, List.take_zero, List.append_nil]
    have : (cl.take (n * 2)).take (i * 2) = (A ++ D).take (i * 2) := by rw [ht]
    rw [List.take_take, Nat.min_eq_left (by omega), ← hA, List.take_left] at this
    rw [← hA]; exact this
  have h2 : (laid cl ((i + 1) * 2) D).drop (i * 2 + bc.length) = D ++ cl.drop ((i + 1) * 2 + D.length) := by
    have hl1 : (cl.take ((i + 1) * 2)).length = (i + 1) * 2 := by rw [List.length_take]; omega
    unfold laid
    rw [List.append_assoc, List.drop_append, hl1, hb, List.drop_of_length_le (by omega), show i * 2 + 2 - (i + 1) * 2 = 0 from by omega, List.drop_zero, List.nil_append]
  show ((laid cl ((i + 1) * 2) D).take (i * 2) ++ bc ++ (laid cl ((i + 1) * 2) D).drop (i * 2 + bc.length)).take ((n + 1) * 2) = _
  rw [h1, h2, ← List.append_assoc, ← List.append_assoc A bc D]
  exact List.take_left' (by rw [List.length_append, List.length_append]; omega)
theorem ins_grow {A R D bc : List Value} {i n : Nat} (hA : A.length = i * 2) (hD : D.length = (n - i) * 2) (hb : bc.length = 2) (hi : i ≤ n) (_hl : (n + 1) * 2 ≤ (A ++ R).length) :
    (laid (laid (A ++ R) (i * 2) bc) ((i + 1) * 2) D).take ((n + 1) * 2) = A ++ (bc ++ D) := by
  have h1 : laid (A ++ R) (i * 2) bc = (A ++ bc) ++ R.drop 2 := by
    unfold laid
    rw [List.take_append, hA, Nat.sub_self, List.take_zero, List.append_nil, List.take_of_length_le (by omega), List.drop_append, List.drop_of_length_le (by omega), List.nil_append, hA, hb, Nat.add_sub_cancel_left]
  rw [h1]
  have h2 : (A ++ bc).length = (i + 1) * 2 := by rw [List.length_append]; omega
  unfold laid
  rw [← h2, List.take_left, ← List.append_assoc]
  exact List.take_left' (by rw [List.length_append, List.length_append]; omega)

set_option maxHeartbeats 2000000 in
theorem insert_any {B : Nat} {w : World} {v : Value} {n i vb : Nat} {l : List Bk} {b : Bk} (ho : w.ownsRow B 52 2 v n (flatB l)) (hn : n = l.length) (hi : i ≤ n) (hlen : n ≤ 4096) (hB : B ≤ w.heap.size)
    (hv : w.heap[vb]? = some (.cells #[.int .i64 b.a, .int .i64 b.n] 52 (0, 0))) (hne : v.ownBlock ≠ some vb) :
    Calls Try.prog 45 #[v, .int .i64 i, .slice (some ⟨vb, 0, .none⟩) 1 1] w fun e w' =>
      ∃ v', e = .returned v' ∧ w'.ownsRow B 52 2 v' (n + 1) (flatB (l.take i ++ b :: l.drop i)) ∧ w.grownBy w' v.ownBlock ∧ (∀ k, v'.ownBlock = some k → v.ownBlock = some k ∨ w.heap.size ≤ k) := by
  obtain ⟨i0, hi0', hz0, hz1, hz2⟩ := info_parts infoBk
  have hru : RdS w 2 (.slice (some ⟨vb, 0, .none⟩) 1 1) 1 b.cells := RdS.new (cs := b.cells.toArray) hv rfl (by omega)
  have hone : ∀ u ∈ b.cells, u.oneCell' = true := by
    intro u hu
    simp only [Bk.cells, List.mem_cons, List.not_mem_nil, or_false] at hu
    rcases hu with rfl | rfl <;> rfl
  by_cases hin : i = n
  · -- at the end
    subst hin
    obtain ⟨ao, cap, e, hcap, hcm, _⟩ := RdS.of_own ho
    subst e
    have hfl : flatB (l.take i ++ b :: l.drop i) = flatB l ++ b.cells := by
      rw [List.take_of_length_le (by omega), List.drop_of_length_le (by omega), flatB_append]
      simp [flatB]
    replace hfl := Lib.hid hfl
    replace hn := Lib.hid hn
    rcases Nat.eq_or_lt_of_le hcap with hci | hci
    · subst hci
      go_enter Try.func45, Try.ntmps45
      go_wp2_with (refine wpList_append_rd rfl (.tmp 23) (.tmp 24) 49 rfl B 52 i0 _ 2 16 Try.underlying49 hi0' hz0 hz1 hz2 rfl (by omega) _ i (flatB l) rfl ho _ 1 b.cells rfl hru hone (by simp only [maxLen]; omega) (by omega) hB ?_; intro v1 w1 hown1 hgrow1 hat1)
      go_ret
      refine ⟨_, rfl, by rw [hfl.out]; exact hown1, hgrow1, fun k hk => ?_⟩
      rcases hat1 with h | h
      · exact .inl (h.symm.trans hk)
      · right
        have : some w.heap.size = some k := h.symm.trans hk
        injection this with this
        omega
    · have hci' : ¬ (cap = i) := by omega
      go_enter Try.func45, Try.ntmps45
      go_wp2_with (refine wpList_append_rd rfl (.tmp 23) (.tmp 24) 49 rfl B 52 i0 _ 2 16 Try.underlying49 hi0' hz0 hz1 hz2 rfl (by omega) _ i (flatB l) rfl ho _ 1 b.cells rfl hru hone (by simp only [maxLen]; omega) (by omega) hB ?_; intro v1 w1 hown1 hgrow1 hat1)
      go_ret
      refine ⟨_, rfl, by rw [hfl.out]; exact hown1, hgrow1, fun k hk => ?_⟩
      rcases hat1 with h | h
      · exact .inl (h.symm.trans hk)
      · right
        have : some w.heap.size = some k := h.symm.trans hk
        injection this with this
        omega
  · have hin : i < n := by omega
    rcases ho.2 with ⟨_, h0⟩ | ⟨g, cap, cur, rfl, hBg, hg, hnc, hcm, hcs, htake⟩
    · omega
    have hvg : vb ≠ g := fun e => hne (by rw [e]; rfl)
    obtain ⟨cl, rfl⟩ : ∃ cl : List Value, cur = cl.toArray := ⟨cur.toList, by simp⟩
    have htake : cl.take (n * 2) = flatB l := by simpa using htake
    have hcs : cl.length = cap * 2 := by simpa using hcs
    have hcm' : (cap : Int) ≤ 9223372036854775807 := by simp only [maxLen] at hcm; omega
    have hlt : (flatB (l.take i)).length = i * 2 := by rw [flatB_length, List.length_take]; omega
    have hld : (flatB (l.drop i)).length = (n - i) * 2 := by rw [flatB_length, List.length_drop, ← hn]
    have hfl : flatB (l.take i ++ b :: l.drop i) = flatB (l.take i) ++ (b.cells ++ flatB (l.drop i)) := by rw [flatB_append]; rfl
    have hsp : flatB l = flatB (l.take i) ++ flatB (l.drop i) := by rw [← flatB_append, List.take_append_drop]
    have hbc : b.cells.length = 2 := rfl
    have hi0 : (0 : Int) ≤ (i : Int) := by omega
    have hinI : (i : Int) < (n : Int) := by omega
    have hin1 : (i : Int) ≤ (n : Int) := by omega
    have hncI : (n : Int) ≤ (cap : Int) := by omega
    have hni : ((i : Int) == (n : Int)) = false := by rw [beq_eq_false_iff_ne]; omega
    have hwi : IntKind.i64.wrap ((i : Int) + 1) = (i : Int) + 1 := by rw [IntKind.wrap_i64]; omega
    have hwi0 : (0 : Int) ≤ (i : Int) + 1 := by omega
    have hwi1 : ((i : Int) + 1).toNat = i + 1 := by omega
    have hsz : (Try.prog.info? 52).map (·.size) = some 2 := by rw [hi0']; simp [hz1]
    have hin2 : (i : Int) ≤ (n : Int) + 1 := by omega
    have hin3 : (i : Int) + 1 ≤ (n : Int) + 1 := by omega
    have hin4 : (i : Int) ≤ ((n + 1 : Nat) : Int) := by omega
    have hin5 : (i : Int) + 1 ≤ ((n + 1 : Nat) : Int) := by omega
    have hci : ¬ (cap = i) := by omega
    by_cases hroom : n + 1 ≤ cap
    · have hci1 : ¬ (cap = i + 1) := by omega
      have hrI : (n : Int) + 1 ≤ (cap : Int) := by omega
      have hsizeOf : ∀ W : World, (sizeOf 52).run Try.prog W = .ok 2 W := fun W => by simp [sizeOf, typeInfo, hi0', hz1]
      have hsv : w.shape? vb = some (52, 2) := by simp [World.shape?, hv]
      have hsg : w.shape? g = some (52, cap * 2) := by simp [World.shape?, hg, hcs]
      have hov : ∀ off lb cb, (callFunc 47 #[.slice (some ⟨vb, 0, .none⟩) 1 1, .slice (some ⟨g, off, .none⟩) lb cb]).run Try.prog w = .ok (.value (.bool false)) w := fun off lb cb => by
        rw [run_callFunc_extern Try.func47 (by kernel_rfl) (by kernel_rfl) (by kernel_rfl) (e := Extern.SlicesOverlaps.overlaps #[49, 49] #[4]) (by kernel_rfl),
          Lib.run_overlaps_apart w 49 4 52 Try.underlying49 2 hsizeOf ⟨vb, 0, .none⟩ ⟨g, off, .none⟩ 1 1 lb cb hvg _ _ _ _ hsv hsg (by omega) (rowFree hv 0) (rowFree hv 2)]
        rfl
      have hs1 := RdS.of_block (sz := 2) (off := i * 2) (n := n + 1 - i) (cap := cap - i) hg (by omega) (by omega) (by omega)
      obtain ⟨L1, hL1⟩ : ∃ L1, L1 = laid cl ((i + 1) * 2) (flatB (l.drop i)) := ⟨_, rfl⟩
      have hl1 : L1.length = cap * 2 := by rw [hL1, laid_length (by rw [hld]; omega)]; exact hcs
      obtain ⟨L2, hL2⟩ : ∃ L2, L2 = laid L1 (i * 2) b.cells := ⟨_, rfl⟩
      have hl2 : L2.length = cap * 2 := by rw [hL2, laid_length (by rw [hbc]; omega)]; exact hl1
      have hend : L2.take ((n + 1) * 2) = flatB (l.take i ++ b :: l.drop i) := by
        rw [hL2, hL1, hfl]
        exact ins_room hlt hld hbc (by omega) (by rw [htake, hsp]) (by omega)
      have hsrc : ((cl.drop (i * 2)).take ((n + 1 - i) * 2)).take ((n - i) * 2) = flatB (l.drop i) := by
        rw [List.take_take, Nat.min_eq_left (by omega), show (n - i) * 2 = n * 2 - i * 2 from by omega, ← List.drop_take, htake, hsp, ← hlt, List.drop_left]
      have hfin : ∀ w' : World, w'.heap[g]? = some (.cells L2.toArray 52 (0, 0)) → w'.ownsRow B 52 2 (.slice (some ⟨g, 0, .none⟩) (n + 1) cap) (n + 1) (flatB (l.take i ++ b :: l.drop i)) := fun w' h => own_of_block hBg h hroom hcm hl2 hend
      replace hL1 := Lib.hid hL1
      replace hL2 := Lib.hid hL2
      replace hsrc := Lib.hid hsrc
      replace hfin := Lib.hid hfin
      replace hl1 := Lib.hid hl1
      replace hcs := Lib.hid hcs
      replace hg := Lib.hid hg
      replace hn := Lib.hid hn
      replace hld := Lib.hid hld
      replace hv := Lib.hid hv
      clear hlt hfl hsp hend htake hl2 hsv hsg ho hbc
      go_enter Try.func45, Try.ntmps45
      go_wp2
      go_region_held3 (fun _ => True) (trivial)
        ((refine step_copy_rd (by rfl) (.tmp 73) (.tmp 76) 49 49 (by rfl) 52 2 Try.underlying49 hsz (by omega) (some ⟨g, (i + 1) * 2, .none⟩) (n - i) (cap - (i + 1)) (by rfl) _ (by rfl) (n - i) (n + 1 - i) _ g ((i + 1) * 2) cl 52 (show w.drew.heap[g]? = _ from hg.out) (fun _ => rfl) hs1.drew
            (by simp only [Nat.min_def]; split <;> omega) (by rw [hcs.out]; omega) (by rw [hsrc.out]; exact flatB_one _) ?_; intro w1 hg1 hgr1))
      rw [hsrc.out, ← hL1.out] at hg1
      have hg1' := Lib.hid hg1
      have hgr1 : w.grownBy w1 (some g) := ⟨hgr1.os, hgr1.tape, hgr1.output, hgr1.size, hgr1.block⟩
      have hv1 : w1.heap[vb]? = some (.cells #[.int .i64 b.a, .int .i64 b.n] 52 (0, 0)) := (hgr1.block vb (Array.getElem?_eq_some_iff.1 hv.out).1 (by simpa using hvg)).trans hv.out
      have hru1 : RdS w1 2 (.slice (some ⟨vb, 0, .none⟩) 1 1) 1 b.cells := RdS.new (cs := b.cells.toArray) hv1 rfl (by omega)
      clear hg1 hv1
      go_wp2_with (refine wpList_copy_rd rfl (.tmp 80) (.tmp 81) 49 49 rfl 52 2 Try.underlying49 hsz (by omega) (some ⟨g, i * 2, .none⟩) (n + 1 - i) (cap - i) rfl _ rfl 1 1 b.cells g (i * 2) L1 52 hg1'.out (fun _ => rfl) hru1 (by simp only [Nat.min_def]; split <;> omega) (by rw [hl1.out]; omega) (fun u hu => hone u (List.mem_of_mem_take hu)) ?_; intro w2 hg2 hgr2)
      go_ret
      have hg2' : w2.heap[g]? = some (.cells L2.toArray 52 (0, 0)) := by rw [hL2.out]; exact hg2
      exact ⟨_, rfl, hfin.out w2 hg2', ⟨hgr2.os.trans hgr1.os, hgr2.tape.trans hgr1.tape, hgr2.output.trans hgr1.output, Nat.le_trans hgr1.size hgr2.size, fun k hk hne => (hgr2.block k (by have := hgr1.size; omega) hne).trans (hgr1.block k hk hne)⟩, fun k hk => .inl hk⟩
    · have hce : cap = n := by omega
      replace hg := hg
      have hA0 := RdS.of_block (sz := 2) (off := 0) (n := i) (cap := cap) hg (by omega) (by omega) (by omega)
      have hA1 : (cl.drop 0).take (i * 2) = flatB (l.take i) := by
        rw [List.drop_zero, ← flatB_take, ← htake, List.take_take, Nat.min_eq_left (by omega)]
      rw [hA1] at hA0
      have hD0 := RdS.of_block (sz := 2) (off := i * 2) (n := n - i) (cap := cap - i) hg (by omega) (by omega) (by omega)
      have hD1 : (cl.drop (i * 2)).take ((n - i) * 2) = flatB (l.drop i) := by
        rw [show (n - i) * 2 = n * 2 - i * 2 from by omega, ← List.drop_take, htake, hsp, ← hlt, List.drop_left]
      rw [hD1] at hD0
      have hsub : (n : Int) + 1 - (i : Int) = ((n + 1 - i : Nat) : Int) := by omega
      have hend : ∀ R : List Value, (n + 1) * 2 ≤ (flatB (l.take i) ++ R).length → (laid (laid (flatB (l.take i) ++ R) (i * 2) b.cells) ((i + 1) * 2) (flatB (l.drop i))).take ((n + 1) * 2) = flatB (l.take i ++ b :: l.drop i) := fun R h => by
        rw [hfl]; exact ins_grow hlt hld hbc (by omega) h
      have hrn : ¬ ((n : Int) + 1 ≤ (cap : Int)) := by omega
      have hgB : g < w.heap.size := (Array.getElem?_eq_some_iff.1 hg).1
      have hvB : vb < w.heap.size := (Array.getElem?_eq_some_iff.1 hv).1
      have hNi : i + (n + 1 - i) = n + 1 := by omega
      replace hend := Lib.hid hend
      replace hsub := Lib.hid hsub
      replace hcs := Lib.hid hcs
      replace hg := Lib.hid hg
      replace hn := Lib.hid hn
      replace hld := Lib.hid hld
      replace hv := Lib.hid hv
      replace hlt := Lib.hid hlt
      replace hce := Lib.hid hce
      replace hNi := Lib.hid hNi
      clear hfl hsp htake ho hbc hD1 hA1
      go_enter Try.func45, Try.ntmps45
      go_wp2_with (first
        | (refine wpList_append_zeros rfl (.tmp 34) (.tmp 39) 49 3 rfl 52 i0 _ 2 16 Try.underlying49 Try.underlying3 hi0' hz0 hz1 hz2 rfl (by omega) (some ⟨g, 0, .none⟩) i cap (n + 1 - i) rfl _ rfl hsub.out (flatB (l.take i)) hA0 (by have := hce.out; omega) (by omega) (by omega) ?_; intro cap1 w1 R hc1 hc2 hg1 hl1 hb1; rw [hNi.out] at hc1; rw [hNi.out]; replace hg1 := Lib.hid hg1; replace hl1 := Lib.hid hl1; have hc1I : (n : Int) + 1 ≤ (cap1 : Int) := (by omega); have hci2 : ¬ (cap1 = i) := (by omega); have hci3 : ¬ (cap1 = i + 1) := (by omega); have hru1 : RdS w1 2 (.slice (some ⟨vb, 0, .none⟩) 1 1) 1 b.cells := RdS.below hru hb1; have hlR : (n + 1) * 2 ≤ (flatB (l.take i) ++ R).length := (by rw [hl1.out]; omega))
        | (refine wpList_copy_rd rfl (.tmp 43) (.tmp 44) 49 49 rfl 52 2 Try.underlying49 hsz (by omega) (some ⟨w.heap.size, i * 2, .none⟩) (n + 1 - i) (cap1 - i) rfl _ rfl 1 1 b.cells w.heap.size (i * 2) (flatB (l.take i) ++ R) 52 hg1.out (fun _ => rfl) hru1 (by simp only [Nat.min_def]; split <;> omega) (by omega) (fun u hu => hone u (List.mem_of_mem_take hu)) ?_; intro w2 hg2 hgr2; replace hg2 := Lib.hid hg2; have hb2 : Below w.heap.size w w2 := ⟨hgr2.os.trans hb1.os, hgr2.tape.trans hb1.tape, hgr2.output.trans hb1.output, Nat.le_trans hb1.size hgr2.size, fun k hk => (hgr2.block k (Nat.lt_of_lt_of_le hk hb1.size) (fun e => by injection e with e; omega)).trans (hb1.block k hk)⟩))
      have hD2 := RdS.below hD0 hb2
      have hl2 : (laid (flatB (l.take i) ++ R) (i * 2) b.cells).length = cap1 * 2 := by rw [laid_length (by show i * 2 + 2 ≤ _; omega)]; exact hl1.out
      have hend2 := hend.out R hlR
      replace hl2 := Lib.hid hl2
      replace hend2 := Lib.hid hend2
      have hw2B : w.heap.size < w2.heap.size := (Array.getElem?_eq_some_iff.1 hg2.out).1
      have e6 : (b.cells.take (1 * 2)) = b.cells := List.take_of_length_le (Nat.le_refl 2)
      have hg2' := hg2.out
      rw [e6] at hg2'
      replace hg2' := Lib.hid hg2'
      generalize laid (flatB (l.take i) ++ R) (i * 2) b.cells = L1 at *
      clear e6 hg2
      go_region_held3 (fun _ => True) (trivial)
        ((refine step_copy_rd (by rfl) (.tmp 50) (.tmp 53) 49 49 (by rfl) 52 2 Try.underlying49 hsz (by omega) (some ⟨w.heap.size, (i + 1) * 2, .none⟩) (n - i) (cap1 - (i + 1)) (by rfl) _ (by rfl) (n - i) (n - i) _ w.heap.size ((i + 1) * 2) L1 52 (show w2.drew.heap[w.heap.size]? = _ from hg2'.out) (fun _ => rfl) hD2.drew
            (by simp only [Nat.min_def]; split <;> omega) (by rw [hl2.out]; omega) (fun u hu => flatB_one _ u (List.mem_of_mem_take hu)) ?_; intro w3 hg3 hgr3))
      have e7 : (flatB (l.drop i)).take ((n - i) * 2) = flatB (l.drop i) := List.take_of_length_le (by rw [hld.out]; exact Nat.le_refl _)
      rw [e7] at hg3
      have ho3 : w3.ownsRow B 52 2 (.slice (some ⟨w.heap.size, 0, .none⟩) (n + 1) cap1) (n + 1) (flatB (l.take i ++ b :: l.drop i)) := own_of_block hB hg3 hc1 hc2 (by rw [laid_length (by rw [hld.out, hl2.out]; omega)]; exact hl2.out) hend2.out
      have hb3 : Below w.heap.size w w3 := ⟨hgr3.os.trans hb2.os, hgr3.tape.trans hb2.tape, hgr3.output.trans hb2.output, Nat.le_trans hb2.size hgr3.size, fun k hk => (hgr3.block k (Nat.lt_of_lt_of_le hk hb2.size) (fun e => by injection e with e; omega)).trans (hb2.block k hk)⟩
      clear hg3 e7
      go_wp2
      go_ret
      refine ⟨_, rfl, ho3, ⟨hb3.os, hb3.tape, hb3.output, hb3.size, fun k hk _ => hb3.block k hk⟩, fun k hk => .inr ?_⟩
      have : some w.heap.size = some k := hk
      injection this with this
      omega
end Go.Proofs.Ytclidckjnoafcaa
