/- The walk of package model's Take. -/
import Derived.Test.YtclidckjnoafcaaMdlT

namespace Go.Proofs.Ytclidckjnoafcaa

open Go.RowKit

attribute [local go_sem ↓] Go.wp_at_zero Go.wp_at_succ

/-- What is left behind by a Take that goes through. -/
theorem take_tail {B s p : Nat} {w w2 w3 : World} {sl v' : Value} {W at' n : Int} {l : List Bk} (h : PM B w s sl W l) (hb : Below w.heap.size w w2) (hok : takeOk W l at' n = true) (hp : p = posB at' l)
    (ho : w3.ownsRow B 52 2 v' (l.length + 1) (flatB (l.take p ++ ⟨at', n⟩ :: l.drop p))) (hg : w2.grownBy w3 sl.ownBlock) (hk : ∀ k, v'.ownBlock = some k → sl.ownBlock = some k ∨ w2.heap.size ≤ k) :
    w3.heap[s]? = some (.cells #[sl, .int .i64 W] 66 (0, 0)) ∧ PM B (w3.setCell ⟨s, 0, .none⟩ v') s v' W (takeB W l at' n) ∧ Only (foot s sl) w (w3.setCell ⟨s, 0, .none⟩ v') ∧ ∀ k, foot s v' k → foot s sl k ∨ w.heap.size ≤ k := by
  have h2 := h.below hb
  have hs3 : w3.heap[s]? = some (.cells #[sl, .int .i64 W] 66 (0, 0)) := (hg.block s h2.lt (fun e => h2.apart e.symm)).trans h2.head
  have hs := hb.size
  have hne : v'.ownBlock ≠ some s := fun e => by
    rcases hk s e with h' | h'
    · exact h2.apart h'
    · have := h2.lt; omega
  refine ⟨hs3, ⟨h.lies, ?_, ?_, hne, takeB_ok h.ok, h.small⟩, ?_, fun k hk' => ?_⟩
  · rw [heap_setCell_same w3 s 0 _ _ _ hs3]; rfl
  · have e : takeB W l at' n = l.take p ++ ⟨at', n⟩ :: l.drop p := by unfold takeB putB; rw [if_pos hok, hp]
    have el : (takeB W l at' n).length = l.length + 1 := by unfold takeB; rw [if_pos hok, putB_length]
    rw [el, e]
    exact ownsRow_of_blocks ho (fun k hk' => heap_setCell_other w3 ⟨s, 0, .none⟩ k _ (fun e => by
      have e' : k = s := e
      subst e'
      exact hne hk'))
  · exact ((Only.of_below hb).grown hg (fun k hk' => .inl (.inr hk'))).setCell (.inl (.inl rfl)) _
  · rcases hk' with rfl | hk'
    · exact .inl (.inl rfl)
    · rcases hk k hk' with h' | h'
      · exact .inl (.inr h')
      · exact .inr (by omega)
theorem takeOk_fits {W lo at' n : Int} {l : List Bk} (h : okK W lo l) (hf : fitsK W at' n = true) : takeOk W l at' n = !clash l at' n := by
  have : 1 ≤ n := by simp only [fitsK, decide_eq_true_eq] at hf; exact hf.1
  unfold takeOk; rw [hf, clash_eq h this]; rfl

set_option maxRecDepth 100000 in
set_option maxHeartbeats 12000000 in
theorem take_any {B s : Nat} {w : World} {sl : Value} {W : Int} {l : List Bk} (h : PM B w s sl W l) (at' n : Int) (ha0 : -9223372036854775808 ≤ at') (ha1 : at' ≤ 9223372036854775807) (hn0 : -9223372036854775808 ≤ n) (hn1 : n ≤ 9223372036854775807) :
    Calls Try.prog 37 #[.pointer (some ⟨s, 0, .none⟩), .int .i64 at', .int .i64 n] w fun e w' => e = .returned (.bool (takeOk W l at' n)) ∧ ∃ sl', PM B w' s sl' W (takeB W l at' n) ∧ Only (foot s sl) w w' ∧ ∀ k, foot s sl' k → foot s sl k ∨ w.heap.size ≤ k := by
  have c1 := h.cell1
  have hW0 : 0 ≤ W := h.ok.le
  have hWs := h.small
  by_cases hf : fitsK W at' n = true
  case neg =>
    have hok : takeOk W l at' n = false := by unfold takeOk; rw [Bool.eq_false_iff.2 hf]; rfl
    have htk : takeB W l at' n = l := by unfold takeB; rw [if_neg (by rw [hok]; simp)]
    rw [hok, htk]
    have hcase : n < 1 ∨ (1 ≤ n ∧ (at' < 0 ∨ (0 ≤ at' ∧ (W < at' ∨ (at' ≤ W ∧ W - at' < n))))) := by
      simp only [fitsK, decide_eq_true_eq] at hf; omega
    clear hf
    rcases hcase with e1 | ⟨e1, e2 | ⟨e2, e3 | ⟨e3, e4⟩⟩⟩
    all_goals
      go_enter Try.func37, Try.ntmps37
      go_wp2
      go_ret
      exact ⟨rfl, _, h, Only.refl _ _, fun k hk => .inl hk⟩
  case pos =>
    have hfit := hf
    simp only [fitsK, decide_eq_true_eq] at hfit
    obtain ⟨f1, f2, f3, f4⟩ := hfit
    have htok := takeOk_fits h.ok hf
    have hlen := h.len
    have hpl := posB_le at' l
    have hmem := h.ok.mem
    by_cases hfd : foundB at' l = true
    · have hcl : clash l at' n = true := by unfold clash; rw [hfd]; rfl
      rw [hcl] at htok
      have htk : takeB W l at' n = l := by unfold takeB; rw [if_neg (by rw [htok]; simp)]
      rw [htok, htk]
      go_enter Try.func37, Try.ntmps37
      go_wp2_with fail
      refine (find_any h at').mono ?_
      rintro e w1 ⟨rfl, hb1⟩
      rw [hfd]
      generalize posB at' l = p at *
      go_wp2
      go_quiet (fail)
      go_wp2
      go_ret
      exact ⟨rfl, _, h.below (below_drewN hb1 _), Only.of_below (below_drewN hb1 _), fun k hk => .inl hk⟩
    · have hfd' : foundB at' l = false := by simpa using hfd
      obtain ⟨ao, cap, e, hcap, hcm, hrow⟩ := h.rd.nth
      subst e
      obtain ⟨N, hn, hn'⟩ : ∃ N, Hid (N = l.length) ∧ N = l.length := ⟨_, Lib.hid rfl, rfl⟩
      rw [← hn'] at hcap hlen hpl h ⊢
      have hc0 : ∀ w1, Below w.heap.size w w1 → w1.cell? ⟨s, 0, .none⟩ = some (.slice ao N cap) := fun w1 hb => (h.below hb).cell0
      have hownW : ∀ w1, Below w.heap.size w w1 → w1.ownsRow B 52 2 (.slice ao N cap) N (flatB l) := fun w1 hb => by have := (h.below hb).owns; rw [← hn'] at this; exact this
      obtain ⟨p, hpp⟩ : ∃ p, posB at' l = p := ⟨_, rfl⟩
      have hp2 : p ≤ N := by rw [← hpp]; exact hpl
      replace hpp := Lib.hid hpp
      replace hc0 := Lib.hid hc0
      replace hownW := Lib.hid hownW
      replace htok := Lib.hid htok
      clear hn' hpl hfd hf
      by_cases hpN : p < N
      · have hpl : p < l.length := hn.out ▸ hpN
        obtain ⟨b, off, rfl, hb, hcs⟩ := hrow (fun e => by rw [e] at hpl; simp at hpl)
        obtain ⟨⟨ba, bn⟩, hA⟩ : ∃ c, l[p] = c := ⟨_, rfl⟩
        obtain ⟨x0, x1⟩ := hcs p hpl
        have hmA := hmem _ (List.getElem_mem hpl)
        rw [hA] at x0 x1 hmA
        have gA : l[p]? = some ⟨ba, bn⟩ := by rw [List.getElem?_eq_getElem hpl, hA]
        simp only at x0 x1 hmA
        replace hA := Lib.hid hA
        replace gA := Lib.hid gA
        have hwA : IntKind.i64.wrap (ba - at') = ba - at' := by rw [IntKind.wrap_i64]; omega
        have hpNI : (p : Int) < (N : Int) := by omega
        have hp0I : (0 : Int) ≤ (p : Int) := by omega
        have hplt : decide (p < N) = true := decide_eq_true hpN
        by_cases hdA : ba - at' < n
        · have hdb : decide (ba - at' < n) = true := decide_eq_true hdA
          have hcl : clash l at' n = true := by unfold clash; rw [hfd', hpp.out, gA.out]; simp [hdA]
          have htkl : Hid (takeB W l at' n = l) := by show _ = _; unfold takeB; rw [if_neg (by rw [htok.out, hcl]; simp)]
          have htk2 : Hid (takeOk W l at' n = false) := by show _ = _; rw [htok.out, hcl]; rfl
          clear hcl hrow hcs
          go_enter Try.func37, Try.ntmps37
          go_wp2_with fail
          refine (find_any h at').mono ?_
          rintro e w1 ⟨rfl, hb1⟩
          rw [hfd', hpp.out]
          have c01 := hc0.out w1 hb1
          have x0' := keepF hb1 _ _ _ x0
          have x1' := keepF hb1 _ _ _ x1
          go_wp2
          go_quiet (fail)
          go_wp2
          go_ret
          exact ⟨by rw [htk2.out]; rfl, _, htkl.out.symm ▸ h.below (below_drewN hb1 _), Only.of_below (below_drewN hb1 _), fun k hk => .inl hk⟩
        · have hdb : decide (ba - at' < n) = false := decide_eq_false hdA
          by_cases hp0 : p = 0
          · subst hp0
            simp only [Nat.zero_mul, Nat.add_zero] at x0 x1
            have hcl : clash l at' n = false := by unfold clash; rw [hfd', hpp.out, gA.out]; simp [hdA]
            have htokt : Hid (takeOk W l at' n = true) := by show _ = _; rw [htok.out, hcl]; rfl
            clear hcl hrow hcs
            go_enter Try.func37, Try.ntmps37
            go_wp2_with fail
            refine (find_any h at').mono ?_
            rintro e w1 ⟨rfl, hb1⟩
            rw [hfd', hpp.out]
            have c01 := hc0.out w1 hb1
            have x0' := keepF hb1 _ _ _ x0
            have x1' := keepF hb1 _ _ _ x1
            go_wp2
            go_quiet (fail)
            have hb2 : Below w.heap.size w ((w1.alloc (.cells #[.int .i64 at', .int .i64 n] 52)).drewN nq) := below_drewN (hb1.alloc hb1.size _) _
            have hown2 := hownW.out _ hb2
            have hvb : ((w1.alloc (.cells #[.int .i64 at', .int .i64 n] 52)).drewN nq).heap[w1.heap.size]? = some (.cells #[.int .i64 at', .int .i64 n] 52 (0, 0)) := heap_alloc_new w1 _
            have hnvb : (Value.slice (some ⟨b, off, .none⟩) N cap).ownBlock ≠ some w1.heap.size := fun e => by have := (h.rowLt _ e).2; have := hb1.size; omega
            have hBw : B ≤ ((w1.alloc (.cells #[.int .i64 at', .int .i64 n] 52)).drewN nq).heap.size := by have := hb2.size; have := h.lies; have := h.lt; omega
            have c02 := hc0.out _ hb2
            have c03 : (w1.drewN nq).cell? ⟨s, 0, .none⟩ = some (.slice (some ⟨b, off, .none⟩) N cap) := c01
            go_wp2_with fail
            refine (insert_any (b := ⟨at', n⟩) hown2 hn.out (by omega) hlen hBw hvb hnvb).mono ?_
            rintro e w3 ⟨v', rfl, ho3, hg3, hk3⟩
            rw [hn.out] at ho3
            obtain ⟨g3, cap3, n3, hv3⟩ : ∃ g3 cap3 n3, v' = .slice (some ⟨g3, 0, .none⟩) n3 cap3 := by
              rcases ho3.2 with ⟨_, h0⟩ | ⟨g3, cap3, _, e3, _⟩
              · omega
              · exact ⟨g3, cap3, _, e3⟩
            subst hv3
            obtain ⟨hs3, hP, hO, hF⟩ := take_tail h hb2 htokt.out hpp.out.symm ho3 hg3 hk3
            have c04 : w3.cell? ⟨s, 0, .none⟩ = some (.slice (some ⟨b, off, .none⟩) N cap) := rowCells hs3 0
            have f04 := rowFree hs3 0
            clear hs3
            go_wp2
            go_ret
            exact ⟨by rw [htokt.out]; rfl, _, hP, hO, hF⟩
          · obtain ⟨q, rfl⟩ : ∃ q, p = q + 1 := ⟨p - 1, by omega⟩
            have hql : q < l.length := by have := hn.out; omega
            obtain ⟨⟨ca, cn⟩, hB⟩ : ∃ c, l[q] = c := ⟨_, rfl⟩
            obtain ⟨z0, z1⟩ := hcs q hql
            have hmB := hmem _ (List.getElem_mem hql)
            rw [hB] at z0 z1 hmB
            have gB : l[q]? = some ⟨ca, cn⟩ := by rw [List.getElem?_eq_getElem hql, hB]
            have hqb := posB_below at' l q (by have := hpp.out; omega) hql
            rw [hB] at hqb
            simp only at z0 z1 hmB hqb
            replace hB := Lib.hid hB
            replace gB := Lib.hid gB
            have hq0 : (0 : Int) ≤ (q : Int) := by omega
            have hqN : (q : Int) < (N : Int) := by omega
            have hq1 : (q : Int) + 1 ≤ (N : Int) := by omega
            have hqp : (0 : Int) < (q : Int) + 1 := by omega
            have hqs : ((q + 1 : Nat) : Int) - 1 = (q : Int) := by omega
            have hwq : IntKind.i64.wrap ((q : Int) + 1 - 1) = (q : Int) := by rw [show (q : Int) + 1 - 1 = (q : Int) from by omega, IntKind.wrap_i64]; omega
            have hqt : ((q : Int) + 1).toNat = q + 1 := by omega
            have hwB : IntKind.i64.wrap (at' - ca) = at' - ca := by rw [IntKind.wrap_i64]; omega
            have hgt : decide ((0 : Int) < (q : Int) + 1) = true := decide_eq_true (by omega)
            have hq2 : (q : Int) + 1 < (N : Int) := by omega
            have hq3 : decide ((q : Int) + 1 < (N : Int)) = true := decide_eq_true hq2
            by_cases hdB : at' - ca < cn
            · have hdd : decide (at' - ca < cn) = true := decide_eq_true hdB
              have hcl : clash l at' n = true := by unfold clash; rw [hfd', hpp.out, gA.out, Nat.add_sub_cancel, gB.out]; simp [hdA, hdB]
              have htkl : Hid (takeB W l at' n = l) := by show _ = _; unfold takeB; rw [if_neg (by rw [htok.out, hcl]; simp)]
              have htk2 : Hid (takeOk W l at' n = false) := by show _ = _; rw [htok.out, hcl]; rfl
              clear hcl hrow hcs
              go_enter Try.func37, Try.ntmps37
              go_wp2_with fail
              refine (find_any h at').mono ?_
              rintro e w1 ⟨rfl, hb1⟩
              rw [hfd', hpp.out]
              have c01 := hc0.out w1 hb1
              have x0' := keepF hb1 _ _ _ x0
              have x1' := keepF hb1 _ _ _ x1
              have z0' := keepF hb1 _ _ _ z0
              have z1' := keepF hb1 _ _ _ z1
              go_wp2
              go_quiet (fail)
              go_wp2
              go_ret
              exact ⟨by rw [htk2.out]; rfl, _, htkl.out.symm ▸ h.below (below_drewN hb1 _), Only.of_below (below_drewN hb1 _), fun k hk => .inl hk⟩
            · have hdd : decide (at' - ca < cn) = false := decide_eq_false hdB
              have hcl : clash l at' n = false := by unfold clash; rw [hfd', hpp.out, gA.out, Nat.add_sub_cancel, gB.out]; simp [hdA, hdB]
              have htokt : Hid (takeOk W l at' n = true) := by show _ = _; rw [htok.out, hcl]; rfl
              clear hcl hrow hcs
              go_enter Try.func37, Try.ntmps37
              go_wp2_with fail
              refine (find_any h at').mono ?_
              rintro e w1 ⟨rfl, hb1⟩
              rw [hfd', hpp.out]
              have c01 := hc0.out w1 hb1
              have x0' := keepF hb1 _ _ _ x0
              have x1' := keepF hb1 _ _ _ x1
              have z0' := keepF hb1 _ _ _ z0
              have z1' := keepF hb1 _ _ _ z1
              go_wp2
              go_quiet (fail)
              have hb2 : Below w.heap.size w ((w1.alloc (.cells #[.int .i64 at', .int .i64 n] 52)).drewN nq) := below_drewN (hb1.alloc hb1.size _) _
              have hown2 := hownW.out _ hb2
              have hvb : ((w1.alloc (.cells #[.int .i64 at', .int .i64 n] 52)).drewN nq).heap[w1.heap.size]? = some (.cells #[.int .i64 at', .int .i64 n] 52 (0, 0)) := heap_alloc_new w1 _
              have hnvb : (Value.slice (some ⟨b, off, .none⟩) N cap).ownBlock ≠ some w1.heap.size := fun e => by have := (h.rowLt _ e).2; have := hb1.size; omega
              have hBw : B ≤ ((w1.alloc (.cells #[.int .i64 at', .int .i64 n] 52)).drewN nq).heap.size := by have := hb2.size; have := h.lies; have := h.lt; omega
              have c02 := hc0.out _ hb2
              have c03 : (w1.drewN nq).cell? ⟨s, 0, .none⟩ = some (.slice (some ⟨b, off, .none⟩) N cap) := c01
              go_wp2_with fail
              refine (insert_any (b := ⟨at', n⟩) hown2 hn.out (by omega) hlen hBw hvb hnvb).mono ?_
              rintro e w3 ⟨v', rfl, ho3, hg3, hk3⟩
              rw [hn.out] at ho3
              obtain ⟨g3, cap3, n3, hv3⟩ : ∃ g3 cap3 n3, v' = .slice (some ⟨g3, 0, .none⟩) n3 cap3 := by
                rcases ho3.2 with ⟨_, h0⟩ | ⟨g3, cap3, _, e3, _⟩
                · omega
                · exact ⟨g3, cap3, _, e3⟩
              subst hv3
              obtain ⟨hs3, hP, hO, hF⟩ := take_tail h hb2 htokt.out hpp.out.symm ho3 hg3 hk3
              have c04 : w3.cell? ⟨s, 0, .none⟩ = some (.slice (some ⟨b, off, .none⟩) N cap) := rowCells hs3 0
              have f04 := rowFree hs3 0
              clear hs3
              go_wp2
              go_ret
              exact ⟨by rw [htokt.out]; rfl, _, hP, hO, hF⟩
      · have gA : l[p]? = none := List.getElem?_eq_none (by rw [← hn.out]; omega)
        replace gA := Lib.hid gA
        have hplt : ¬ ((p : Int) < (N : Int)) := by omega
        have hpld : decide (p < N) = false := decide_eq_false hpN
        have hNp : N ≤ p := by omega
        clear hpN
        by_cases hp0 : p = 0
        · subst hp0
          have hcl : clash l at' n = false := by unfold clash; rw [hfd', hpp.out, gA.out]; simp []
          have htokt : Hid (takeOk W l at' n = true) := by show _ = _; rw [htok.out, hcl]; rfl
          clear hcl hrow
          go_enter Try.func37, Try.ntmps37
          go_wp2_with fail
          refine (find_any h at').mono ?_
          rintro e w1 ⟨rfl, hb1⟩
          rw [hfd', hpp.out]
          have c01 := hc0.out w1 hb1
          go_wp2
          go_quiet (fail)
          have hb2 : Below w.heap.size w ((w1.alloc (.cells #[.int .i64 at', .int .i64 n] 52)).drewN nq) := below_drewN (hb1.alloc hb1.size _) _
          have hown2 := hownW.out _ hb2
          have hvb : ((w1.alloc (.cells #[.int .i64 at', .int .i64 n] 52)).drewN nq).heap[w1.heap.size]? = some (.cells #[.int .i64 at', .int .i64 n] 52 (0, 0)) := heap_alloc_new w1 _
          have hnvb : (Value.slice ao N cap).ownBlock ≠ some w1.heap.size := fun e => by have := (h.rowLt _ e).2; have := hb1.size; omega
          have hBw : B ≤ ((w1.alloc (.cells #[.int .i64 at', .int .i64 n] 52)).drewN nq).heap.size := by have := hb2.size; have := h.lies; have := h.lt; omega
          have c02 := hc0.out _ hb2
          have c03 : (w1.drewN nq).cell? ⟨s, 0, .none⟩ = some (.slice ao N cap) := c01
          go_wp2_with fail
          refine (insert_any (b := ⟨at', n⟩) hown2 hn.out (by omega) hlen hBw hvb hnvb).mono ?_
          rintro e w3 ⟨v', rfl, ho3, hg3, hk3⟩
          rw [hn.out] at ho3
          obtain ⟨g3, cap3, n3, hv3⟩ : ∃ g3 cap3 n3, v' = .slice (some ⟨g3, 0, .none⟩) n3 cap3 := by
            rcases ho3.2 with ⟨_, h0⟩ | ⟨g3, cap3, _, e3, _⟩
            · omega
            · exact ⟨g3, cap3, _, e3⟩
          subst hv3
          obtain ⟨hs3, hP, hO, hF⟩ := take_tail h hb2 htokt.out hpp.out.symm ho3 hg3 hk3
          have c04 : w3.cell? ⟨s, 0, .none⟩ = some (.slice ao N cap) := rowCells hs3 0
          have f04 := rowFree hs3 0
          clear hs3
          go_wp2
          go_ret
          exact ⟨by rw [htokt.out]; rfl, _, hP, hO, hF⟩
        · have hpl : 0 < l.length := by have := hn.out; omega
          obtain ⟨b, off, rfl, hb, hcs⟩ := hrow (fun e => by rw [e] at hpl; simp at hpl)
          obtain ⟨q, rfl⟩ : ∃ q, p = q + 1 := ⟨p - 1, by omega⟩
          have hql : q < l.length := by have := hn.out; omega
          obtain ⟨⟨ca, cn⟩, hB⟩ : ∃ c, l[q] = c := ⟨_, rfl⟩
          obtain ⟨z0, z1⟩ := hcs q hql
          have hmB := hmem _ (List.getElem_mem hql)
          rw [hB] at z0 z1 hmB
          have gB : l[q]? = some ⟨ca, cn⟩ := by rw [List.getElem?_eq_getElem hql, hB]
          have hqb := posB_below at' l q (by have := hpp.out; omega) hql
          rw [hB] at hqb
          simp only at z0 z1 hmB hqb
          replace hB := Lib.hid hB
          replace gB := Lib.hid gB
          have hq0 : (0 : Int) ≤ (q : Int) := by omega
          have hqN : (q : Int) < (N : Int) := by omega
          have hq1 : (q : Int) + 1 ≤ (N : Int) := by omega
          have hqp : (0 : Int) < (q : Int) + 1 := by omega
          have hqs : ((q + 1 : Nat) : Int) - 1 = (q : Int) := by omega
          have hwq : IntKind.i64.wrap ((q : Int) + 1 - 1) = (q : Int) := by rw [show (q : Int) + 1 - 1 = (q : Int) from by omega, IntKind.wrap_i64]; omega
          have hqt : ((q : Int) + 1).toNat = q + 1 := by omega
          have hwB : IntKind.i64.wrap (at' - ca) = at' - ca := by rw [IntKind.wrap_i64]; omega
          have hgt : decide ((0 : Int) < (q : Int) + 1) = true := decide_eq_true (by omega)
          have hq2 : ¬ ((q : Int) + 1 < (N : Int)) := by omega
          have hq3 : decide ((q : Int) + 1 < (N : Int)) = false := decide_eq_false hq2
          by_cases hdB : at' - ca < cn
          · have hdd : decide (at' - ca < cn) = true := decide_eq_true hdB
            have hcl : clash l at' n = true := by unfold clash; rw [hfd', hpp.out, gA.out, Nat.add_sub_cancel, gB.out]; simp [hdB]
            have htkl : Hid (takeB W l at' n = l) := by show _ = _; unfold takeB; rw [if_neg (by rw [htok.out, hcl]; simp)]
            have htk2 : Hid (takeOk W l at' n = false) := by show _ = _; rw [htok.out, hcl]; rfl
            clear hcl hrow hcs
            go_enter Try.func37, Try.ntmps37
            go_wp2_with fail
            refine (find_any h at').mono ?_
            rintro e w1 ⟨rfl, hb1⟩
            rw [hfd', hpp.out]
            have c01 := hc0.out w1 hb1
            have z0' := keepF hb1 _ _ _ z0
            have z1' := keepF hb1 _ _ _ z1
            go_wp2
            go_quiet (fail)
            go_wp2
            go_ret
            exact ⟨by rw [htk2.out]; rfl, _, htkl.out.symm ▸ h.below (below_drewN hb1 _), Only.of_below (below_drewN hb1 _), fun k hk => .inl hk⟩
          · have hdd : decide (at' - ca < cn) = false := decide_eq_false hdB
            have hcl : clash l at' n = false := by unfold clash; rw [hfd', hpp.out, gA.out, Nat.add_sub_cancel, gB.out]; simp [hdB]
            have htokt : Hid (takeOk W l at' n = true) := by show _ = _; rw [htok.out, hcl]; rfl
            clear hcl hrow hcs
            go_enter Try.func37, Try.ntmps37
            go_wp2_with fail
            refine (find_any h at').mono ?_
            rintro e w1 ⟨rfl, hb1⟩
            rw [hfd', hpp.out]
            have c01 := hc0.out w1 hb1
            have z0' := keepF hb1 _ _ _ z0
            have z1' := keepF hb1 _ _ _ z1
            go_wp2
            go_quiet (fail)
            have hb2 : Below w.heap.size w ((w1.alloc (.cells #[.int .i64 at', .int .i64 n] 52)).drewN nq) := below_drewN (hb1.alloc hb1.size _) _
            have hown2 := hownW.out _ hb2
            have hvb : ((w1.alloc (.cells #[.int .i64 at', .int .i64 n] 52)).drewN nq).heap[w1.heap.size]? = some (.cells #[.int .i64 at', .int .i64 n] 52 (0, 0)) := heap_alloc_new w1 _
            have hnvb : (Value.slice (some ⟨b, off, .none⟩) N cap).ownBlock ≠ some w1.heap.size := fun e => by have := (h.rowLt _ e).2; have := hb1.size; omega
            have hBw : B ≤ ((w1.alloc (.cells #[.int .i64 at', .int .i64 n] 52)).drewN nq).heap.size := by have := hb2.size; have := h.lies; have := h.lt; omega
            have c02 := hc0.out _ hb2
            have c03 : (w1.drewN nq).cell? ⟨s, 0, .none⟩ = some (.slice (some ⟨b, off, .none⟩) N cap) := c01
            go_wp2_with fail
            refine (insert_any (b := ⟨at', n⟩) hown2 hn.out (by omega) hlen hBw hvb hnvb).mono ?_
            rintro e w3 ⟨v', rfl, ho3, hg3, hk3⟩
            rw [hn.out] at ho3
            obtain ⟨g3, cap3, n3, hv3⟩ : ∃ g3 cap3 n3, v' = .slice (some ⟨g3, 0, .none⟩) n3 cap3 := by
              rcases ho3.2 with ⟨_, h0⟩ | ⟨g3, cap3, _, e3, _⟩
              · omega
              · exact ⟨g3, cap3, _, e3⟩
            subst hv3
            obtain ⟨hs3, hP, hO, hF⟩ := take_tail h hb2 htokt.out hpp.out.symm ho3 hg3 hk3
            have c04 : w3.cell? ⟨s, 0, .none⟩ = some (.slice (some ⟨b, off, .none⟩) N cap) := rowCells hs3 0
            have f04 := rowFree hs3 0
            clear hs3
            go_wp2
            go_ret
            exact ⟨by rw [htokt.out]; rfl, _, hP, hO, hF⟩
end Go.Proofs.Ytclidckjnoafcaa
