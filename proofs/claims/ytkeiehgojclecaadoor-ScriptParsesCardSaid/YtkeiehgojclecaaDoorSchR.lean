/- The walks of the reference's SameChoices, Alone, Turns. -/
import Derived.Test.YtkeiehgojclecaaDoorSchC

import Derived.Deep.CutBlock

namespace Go.Proofs.YtkeiehgojclecaaDoor

open Go.RowKit Fl

attribute [local go_sem ↓] Go.wp_at_zero Go.wp_at_succ

set_option maxHeartbeats 1000000 in
theorem refSame_row (xs ys : List Ch) (v u : Value) (w : World) (hx : RdC w v xs) (hy : RdC w u ys) (fx : ∀ c ∈ xs, c.fit) (fy : ∀ c ∈ ys, c.fit) :
    Calls Tryd.prog 17 #[v, u] w fun e w' => e = .returned (.bool (sameL xs ys)) ∧ Below w.heap.size w w' := by
  obtain ⟨ax, cx, rfl, hcx, hmx, hrx⟩ := hx
  obtain ⟨ay, cy, rfl, hcy, hmy, hry⟩ := hy
  by_cases hl : xs.length = ys.length
  · obtain ⟨n, hn⟩ : ∃ n, n = xs.length := ⟨_, rfl⟩
    have hn2 : n = ys.length := hn.trans hl
    rw [← hn, ← hn2]
    rw [← hn] at hcx
    rw [← hn2] at hcy
    have hlN : n ≤ 9223372036854775807 := by omega
    have hlh := Lib.hid hl
    have hnh := Lib.hid hn
    clear hl hn hn2
    go_enter Tryd.func17, Tryd.ntmps17
    go_wp2
    go_loopw [5] (fun v5 wr => ∃ j : Nat, j ≤ n ∧ v5 = .int .i64 j ∧ (∀ i, (hi : i < xs.length) → i < j → sameC xs[i] (ys[i]'(hlh.out ▸ hi)) = true) ∧ Below w.heap.size w wr) (fun v5 _ => n - (intOf v5).toNat)
    case atStart => exact ⟨0, Nat.zero_le _, rfl, fun i hi h => by omega, Below.refl _ _⟩
    case round =>
      obtain ⟨j, hj, rfl, hall, hbr⟩ := hrel
      by_cases hjn : j < n
      · have hjl : (j : Int) < (n : Int) := by omega
        have hj0 : (0 : Int) ≤ (j : Int) := by omega
        have hjt : j < xs.length := hnh.out ▸ hjn
        obtain ⟨bx, ox, rfl, hbx, hcx'⟩ := hrx (fun h => by subst h; simp at hjt)
        obtain ⟨by', oy, rfl, hby, hcy'⟩ := hry (fun h => by have e := hlh.out; rw [h] at e; simp at e; rw [e] at hjt; simp at hjt)
        have fa := fx xs[j] (List.getElem_mem _)
        have fb := fy (ys[j]'(hlh.out ▸ hjt)) (List.getElem_mem _)
        have X0 : wr.cell? ⟨bx, ox + j * 6, .none⟩ = some (.int .i64 xs[j].kind) := keepF hbr _ _ _ ((hcx' j 0 hjt (by omega)).trans rfl)
        have X1 : wr.cell? ⟨bx, ox + j * 6 + 1, .none⟩ = some (.int .i64 xs[j].client) := keepF hbr _ _ _ ((hcx' j 1 hjt (by omega)).trans rfl)
        have X2 : wr.cell? ⟨bx, ox + j * 6 + 2, .none⟩ = some (.int .i64 xs[j].ok) := keepF hbr _ _ _ ((hcx' j 2 hjt (by omega)).trans rfl)
        have X3 : wr.cell? ⟨bx, ox + j * 6 + 3, .none⟩ = some (.int .i64 xs[j].oa) := keepF hbr _ _ _ ((hcx' j 3 hjt (by omega)).trans rfl)
        have X4 : wr.cell? ⟨bx, ox + j * 6 + 4, .none⟩ = some (.int .i64 xs[j].on) := keepF hbr _ _ _ ((hcx' j 4 hjt (by omega)).trans rfl)
        have X5 : wr.cell? ⟨bx, ox + j * 6 + 5, .none⟩ = some (.float .f64 xs[j].bias) := keepF hbr _ _ _ ((hcx' j 5 hjt (by omega)).trans rfl)
        have Y0 : wr.cell? ⟨by', oy + j * 6, .none⟩ = some (.int .i64 (ys[j]'(hlh.out ▸ hjt)).kind) := keepF hbr _ _ _ ((hcy' j 0 (hlh.out ▸ hjt) (by omega)).trans rfl)
        have Y1 : wr.cell? ⟨by', oy + j * 6 + 1, .none⟩ = some (.int .i64 (ys[j]'(hlh.out ▸ hjt)).client) := keepF hbr _ _ _ ((hcy' j 1 (hlh.out ▸ hjt) (by omega)).trans rfl)
        have Y2 : wr.cell? ⟨by', oy + j * 6 + 2, .none⟩ = some (.int .i64 (ys[j]'(hlh.out ▸ hjt)).ok) := keepF hbr _ _ _ ((hcy' j 2 (hlh.out ▸ hjt) (by omega)).trans rfl)
        have Y3 : wr.cell? ⟨by', oy + j * 6 + 3, .none⟩ = some (.int .i64 (ys[j]'(hlh.out ▸ hjt)).oa) := keepF hbr _ _ _ ((hcy' j 3 (hlh.out ▸ hjt) (by omega)).trans rfl)
        have Y4 : wr.cell? ⟨by', oy + j * 6 + 4, .none⟩ = some (.int .i64 (ys[j]'(hlh.out ▸ hjt)).on) := keepF hbr _ _ _ ((hcy' j 4 (hlh.out ▸ hjt) (by omega)).trans rfl)
        have Y5 : wr.cell? ⟨by', oy + j * 6 + 5, .none⟩ = some (.float .f64 (ys[j]'(hlh.out ▸ hjt)).bias) := keepF hbr _ _ _ ((hcy' j 5 (hlh.out ▸ hjt) (by omega)).trans rfl)
        have hget : ∀ h : sameC xs[j] (ys[j]'(hlh.out ▸ hjt)) = false, sameL xs ys = false := same_not xs ys hlh.out j hjt
        have hgo : ∀ h : sameC xs[j] (ys[j]'(hlh.out ▸ hjt)) = true, ∀ i, (hi : i < xs.length) → i < j + 1 → sameC xs[i] (ys[i]'(hlh.out ▸ hi)) = true := by
          intro h i hi hij
          rcases Nat.lt_or_ge i j with hlt | hge
          · exact hall i hi hlt
          · obtain rfl : i = j := by omega
            exact h
        clear hcx' hcy' hrx hry hall
        generalize xs[j] = a at *
        generalize ys[j]'(hlh.out ▸ hjt) = c at *
        obtain ⟨a0, a1, a2, a3, a4, a5⟩ := a
        obtain ⟨c0, c1, c2, c3, c4, c5⟩ := c
        have fa : a5 < 18446744073709551616 := fa
        have fb : c5 < 18446744073709551616 := fb
        simp only [sameC] at hget hgo
        have hget := Lib.hid hget
        have hgo := Lib.hid hgo
        have hD := fun n => below_drewN hbr n
        by_cases h0 : a0 = c0
        · subst h0
          by_cases h1 : a1 = c1
          · subst h1
            by_cases h2 : a2 = c2 ∧ a3 = c3 ∧ a4 = c4
            · obtain ⟨rfl, rfl, rfl⟩ := h2
              by_cases h3 : key a5 = key c5
              · have hf := Lib.hid (hgo.out (by simp [h3]))
                clear hget hgo
                go_wp2
                go_quiet ((go_at_call 33; exact Calls.quiet_of_same (refSame_any _ _ fa fb _)))
                go_wp2
                exact ⟨⟨j + 1, by omega, by go_num, hf.out, hD _⟩, by simp [intOf]; omega⟩
              · have hf := Lib.hid (hget.out (by simp [h3]))
                clear hget hgo
                go_wp2
                go_quiet ((go_at_call 33; exact Calls.quiet_of_same (refSame_any _ _ fa fb _)))
                go_wp2
                go_ret
                exact ⟨ret_bool hf.out.symm, hD _⟩
            · have hf := Lib.hid (hget.out (by simp [h2]))
              clear hget hgo
              have h2' : a2 ≠ c2 ∨ (a2 = c2 ∧ (a3 ≠ c3 ∨ (a3 = c3 ∧ a4 ≠ c4))) := by
                by_cases e2 : a2 = c2
                · refine .inr ⟨e2, ?_⟩
                  by_cases e3 : a3 = c3
                  · exact .inr ⟨e3, fun e4 => h2 ⟨e2, e3, e4⟩⟩
                  · exact .inl e3
                · exact .inl e2
              clear h2
              rcases h2' with h2 | ⟨rfl, h2 | ⟨rfl, h2⟩⟩
              all_goals
                have h2b := beq_eq_false_iff_ne.2 h2
                have h2c := decide_eq_false h2
                go_wp2
                go_quiet ((go_at_call 33; exact Calls.quiet_of_same (refSame_any _ _ fa fb _)))
                go_wp2
                go_ret
                exact ⟨ret_bool hf.out.symm, hD _⟩
          · have hf := Lib.hid (hget.out (by simp [h1]))
            clear hget hgo
            have h1b : (a1 != c1) = true := bne_iff_ne.2 h1
            go_wp2
            go_quiet ((go_at_call 33; exact Calls.quiet_of_same (refSame_any _ _ fa fb _)))
            go_wp2
            go_ret
            exact ⟨ret_bool hf.out.symm, hD _⟩
        · have hf := Lib.hid (hget.out (by simp [h0]))
          clear hget hgo
          have h0b : (a0 != c0) = true := bne_iff_ne.2 h0
          go_wp2
          go_quiet ((go_at_call 33; exact Calls.quiet_of_same (refSame_any _ _ fa fb _)))
          go_wp2
          go_ret
          exact ⟨ret_bool hf.out.symm, hD _⟩
      · have hje : j = n := by omega
        subst hje
        have hj0 : ¬ ((j : Int) < (j : Int)) := by omega
        go_wp2
        go_ret
        exact ⟨ret_bool (same_upto xs ys hlh.out (fun i hi => hall i hi (hnh.out ▸ hi))).symm, hbr⟩
  · have hle : ((xs.length : Int) != (ys.length : Int)) = true := by rw [bne_iff_ne]; omega
    go_enter Tryd.func17, Tryd.ntmps17
    go_wp2
    go_ret
    exact ⟨ret_bool (same_len xs ys hl).symm, Below.refl _ _⟩
end Go.Proofs.YtkeiehgojclecaaDoor
