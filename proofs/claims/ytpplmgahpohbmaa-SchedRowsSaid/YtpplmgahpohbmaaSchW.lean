/- The walk of sched.Same. -/
import Derived.Test.YtpplmgahpohbmaaSchV
namespace Go.Proofs.Ytpplmgahpohbmaa
open Go.RowKit Fl

section
variable {P : Program} {w : World} {a : Addr} {m : Mode}
theorem run_store_float (k : FloatKind) (x : Nat) : (store a (.float k x) m).run P w = stored P w a (.float k x) m := run_store P w a _ m rfl
end
attribute [local go_sem] run_store_float

set_option maxHeartbeats 1000000 in
theorem same_row (xs ys : List Ch) (v u : Value) (w : World) (hx : RdC w v xs) (hy : RdC w u ys) (fx : ∀ c ∈ xs, c.fit) (fy : ∀ c ∈ ys, c.fit) :
    Calls Try.prog 11 #[v, u] w fun e w' => e = .returned (.bool (sameL xs ys)) ∧ Below w.heap.size w w' := by
  obtain ⟨ax, cx, rfl, hcx, hmx, hrx⟩ := hx
  obtain ⟨ay, cy, rfl, hcy, hmy, hry⟩ := hy
  by_cases hl : xs.length = ys.length
  · obtain ⟨n, hn⟩ : ∃ n, n = xs.length := ⟨_, rfl⟩
    have hn2 : n = ys.length := hn.trans hl
    rw [← hn, ← hn2]
    rw [← hn] at hcx
    rw [← hn2] at hcy
    have hlN : n ≤ 9223372036854775807 := by omega
    have hlh := Lib.hid hl
    have hnh := Lib.hid hn
    clear hl hn hn2
    go_enter Try.func11, Try.ntmps11
    go_wp2
    go_loopw [15] (fun v15 wr => ∃ j : Nat, j ≤ n ∧ v15 = .int .i64 j ∧ (∀ i, (hi : i < xs.length) → i < j → sameC xs[i] (ys[i]'(hlh.out ▸ hi)) = true) ∧ Below w.heap.size w wr) (fun v15 _ => n - (intOf v15).toNat)
    case atStart => exact ⟨0, Nat.zero_le _, rfl, fun i hi h => by omega, Below.refl _ _⟩
    case round =>
      obtain ⟨j, hj, rfl, hall, hbr⟩ := hrel
      by_cases hjn : j < n
      · have hjl : (j : Int) < (n : Int) := by omega
        have hjt : j < xs.length := hnh.out ▸ hjn
        obtain ⟨bx, ox, rfl, hbx, hcx'⟩ := hrx (fun h => by subst h; simp at hjt)
        obtain ⟨by', oy, rfl, hby, hcy'⟩ := hry (fun h => by have e := hlh.out; rw [h] at e; simp at e; rw [e] at hjt; simp at hjt)
        have hs := hall
        have fa := fx xs[j] (List.getElem_mem _)
        have fb := fy (ys[j]'(hlh.out ▸ hjt)) (List.getElem_mem _)
        have X0 : wr.cell? ⟨bx, ox + j * 6, .none⟩ = some (.int .i64 xs[j].kind) := keepF hbr _ _ _ ((hcx' j 0 hjt (by omega)).trans rfl)
        have X1 : wr.cell? ⟨bx, ox + j * 6 + 1, .none⟩ = some (.int .i64 xs[j].client) := keepF hbr _ _ _ ((hcx' j 1 hjt (by omega)).trans rfl)
        have X2 : wr.cell? ⟨bx, ox + j * 6 + 2, .none⟩ = some (.int .i64 xs[j].ok) := keepF hbr _ _ _ ((hcx' j 2 hjt (by omega)).trans rfl)
        have X3 : wr.cell? ⟨bx, ox + j * 6 + 3, .none⟩ = some (.int .i64 xs[j].oa) := keepF hbr _ _ _ ((hcx' j 3 hjt (by omega)).trans rfl)
        have X4 : wr.cell? ⟨bx, ox + j * 6 + 4, .none⟩ = some (.int .i64 xs[j].on) := keepF hbr _ _ _ ((hcx' j 4 hjt (by omega)).trans rfl)
        have X5 : wr.cell? ⟨bx, ox + j * 6 + 5, .none⟩ = some (.float .f64 xs[j].bias) := keepF hbr _ _ _ ((hcx' j 5 hjt (by omega)).trans rfl)
        have Y0 : ∀ o, (wr.alloc o).cell? ⟨by', oy + j * 6, .none⟩ = some (.int .i64 (ys[j]'(hlh.out ▸ hjt)).kind) := fun o => keepF (hbr.alloc hbr.size o) _ _ _ ((hcy' j 0 (hlh.out ▸ hjt) (by omega)).trans rfl)
        have Y1 : ∀ o, (wr.alloc o).cell? ⟨by', oy + j * 6 + 1, .none⟩ = some (.int .i64 (ys[j]'(hlh.out ▸ hjt)).client) := fun o => keepF (hbr.alloc hbr.size o) _ _ _ ((hcy' j 1 (hlh.out ▸ hjt) (by omega)).trans rfl)
        have Y2 : ∀ o, (wr.alloc o).cell? ⟨by', oy + j * 6 + 2, .none⟩ = some (.int .i64 (ys[j]'(hlh.out ▸ hjt)).ok) := fun o => keepF (hbr.alloc hbr.size o) _ _ _ ((hcy' j 2 (hlh.out ▸ hjt) (by omega)).trans rfl)
        have Y3 : ∀ o, (wr.alloc o).cell? ⟨by', oy + j * 6 + 3, .none⟩ = some (.int .i64 (ys[j]'(hlh.out ▸ hjt)).oa) := fun o => keepF (hbr.alloc hbr.size o) _ _ _ ((hcy' j 3 (hlh.out ▸ hjt) (by omega)).trans rfl)
        have Y4 : ∀ o, (wr.alloc o).cell? ⟨by', oy + j * 6 + 4, .none⟩ = some (.int .i64 (ys[j]'(hlh.out ▸ hjt)).on) := fun o => keepF (hbr.alloc hbr.size o) _ _ _ ((hcy' j 4 (hlh.out ▸ hjt) (by omega)).trans rfl)
        have Y5 : ∀ o, (wr.alloc o).cell? ⟨by', oy + j * 6 + 5, .none⟩ = some (.float .f64 (ys[j]'(hlh.out ▸ hjt)).bias) := fun o => keepF (hbr.alloc hbr.size o) _ _ _ ((hcy' j 5 (hlh.out ▸ hjt) (by omega)).trans rfl)
        have hget : ∀ h : sameC xs[j] (ys[j]'(hlh.out ▸ hjt)) = false, sameL xs ys = false := same_not xs ys hlh.out j hjt
        have hgo : ∀ h : sameC xs[j] (ys[j]'(hlh.out ▸ hjt)) = true, ∀ i, (hi : i < xs.length) → i < j + 1 → sameC xs[i] (ys[i]'(hlh.out ▸ hi)) = true := by
          intro h i hi hij
          rcases Nat.lt_or_ge i j with hlt | hge
          · exact hall i hi hlt
          · obtain rfl : i = j := by omega
            exact h
        clear hcx' hcy' hrx hry hs
        generalize xs[j] = a at *
        generalize ys[j]'(hlh.out ▸ hjt) = c at *
        obtain ⟨a0, a1, a2, a3, a4, a5⟩ := a
        obtain ⟨c0, c1, c2, c3, c4, c5⟩ := c
        have fa : a5 < 18446744073709551616 := fa
        have fb : c5 < 18446744073709551616 := fb
        have HB : ∀ o o', Below w.heap.size w ((wr.alloc o).alloc o') := fun o o' => (hbr.alloc hbr.size o).alloc (hbr.alloc hbr.size o).size o'
        go_wp2_with (go_at_call 21; refine (same_any _ _ fa fb _).mono ?_; rintro e w1 ⟨rfl, rfl⟩)
        all_goals first
          | (go_ret; refine ⟨ret_bool (hget ?_).symm, HB _ _⟩)
          | (refine ⟨⟨j + 1, by omega, by go_num, hgo ?_, HB _ _⟩, by simp only [intOf]; omega⟩)
        all_goals clear hget hgo X0 X1 X2 X3 X4 X5 Y0 Y1 Y2 Y3 Y4 Y5
        all_goals unfold sameC
        all_goals simp_all
      · have hje : j = n := by omega
        subst hje
        have hj0 : ¬ ((j : Int) < (j : Int)) := by omega
        go_wp2
        go_ret
        exact ⟨ret_bool (same_upto xs ys hlh.out (fun i hi => hall i hi (hnh.out ▸ hi))).symm, hbr⟩
  · have hle : ((xs.length : Int) != (ys.length : Int)) = true := by rw [bne_iff_ne]; omega
    go_enter Try.func11, Try.ntmps11
    go_wp2
    go_ret
    exact ⟨ret_bool (same_len xs ys hl).symm, Below.refl _ _⟩
end Go.Proofs.Ytpplmgahpohbmaa
