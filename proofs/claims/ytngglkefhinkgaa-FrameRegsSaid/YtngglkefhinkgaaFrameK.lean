/- The law FrameKeeps, walked. -/
import Derived.Test.YtngglkefhinkgaaFrameB
namespace Go.Proofs.Ytngglkefhinkgaa
open Go.RowKit

theorem putLast_snoc (fs : List Fr) (f : Fr) (j : Nat) (x : Int) : putLast (fs ++ [f]) j x = fs ++ [f.put j x] := by
  simp [putLast, topFr_snoc]
/-- Frame number i of the law. -/
def kf (zs : List Int) (i : Nat) : Fr := ⟨i, 3 * (i : Int), [zs.getD i 0, wrap64 (zs.getD i 0 + 1), 0, 0, 0, 0, 0, wrap64 (-(zs.getD i 0))]⟩
def kfs (zs : List Int) (n : Nat) : List Fr := (List.range n).map (kf zs)
theorem kfs_succ (zs : List Int) (n : Nat) : kfs zs (n + 1) = kfs zs n ++ [kf zs n] := by simp [kfs, List.range_succ]
theorem kfs_length (zs : List Int) (n : Nat) : (kfs zs n).length = n := by simp [kfs]
theorem kf_puts (zs : List Int) (n : Nat) : (Fr.put (Fr.put ⟨n, 0, padded [zs.getD n 0, wrap64 (zs.getD n 0 + 1)]⟩ 1 (3 * (n : Int))) (2 + (7 : Int).toNat) (wrap64 (-(zs.getD n 0)))) = kf zs n := by
  simp [Fr.put, kf, padded]

set_option maxRecDepth 100000 in
set_option maxHeartbeats 1000000 in
theorem frameKeeps_any (b off len cap : Nat) (zs : List Int) (w : World) (hlen : (len : Int) ≤ 9223372036854775807) (hcap : len ≤ cap) (hbl : b < w.heap.size)
    (hc : ∀ j, j < len → w.cell? ⟨b, off + j, .none⟩ = some (.int .i64 (zs.getD j 0))) (hz : ∀ j, -9223372036854775808 ≤ zs.getD j 0 ∧ zs.getD j 0 ≤ 9223372036854775807) :
    Calls Try.prog 5 #[.slice (some ⟨b, off, .none⟩) len cap] w fun e w' => e = .returned (.bool true) ∧ Below w.heap.size w w' := by
  have hnew : ∀ w, Calls Try.prog 15 #[.int .i64 16] w fun e w' => e = .returned (.pointer (some ⟨w.heap.size, 0, .none⟩)) ∧ w' = w.alloc (.cells #[.slice none 0 0, .int .i64 16] 80) := fun w => by
    have := new_any 16 w
    rw [if_neg (by omega)] at this
    exact this
  obtain ⟨k, hk⟩ : ∃ k : Nat, k = min len 16 := ⟨_, rfl⟩
  go_enter Try.func5, Try.ntmps5
  go_upto_region 6 with (first
    | (go_at_call 14; refine (frame_awake _).mono ?_; rintro e w1 ⟨rfl, hw1⟩)
    | (go_at_call 15; refine (hnew _).mono ?_; rintro e w' ⟨rfl, rfl⟩))
  have h0 := stk_new (B := w1.heap.size) (w := w1) (m := 16) (Nat.le_refl _)
  have hb0 : Below w1.heap.size w1 (w1.alloc (.cells #[.slice none 0 0, .int .i64 16] 80)) := (Below.refl _ _).alloc (Nat.le_refl _) _
  have hbS : b < w1.heap.size := by have := hw1.size; omega
  have hc1 : ∀ j, j < len → w1.cell? ⟨b, off + j, .none⟩ = some (.int .i64 (zs.getD j 0)) := fun j hj => keepF hw1 _ _ _ (hc j hj)
  generalize (w1.alloc (.cells #[.slice none 0 0, .int .i64 16] 80)) = w2 at *
  generalize hS : w1.heap.size = S at *
  clear hc
  go_cut [4] (fun s4 wx => s4 = .int .i64 k ∧ wx = w2)
  case first =>
    go_wp2_with fail
    all_goals go_meet
    all_goals exact ⟨by congr 1; omega, rfl⟩
  case rest =>
  obtain ⟨rfl, rfl⟩ := hcut
  have hk16 : k ≤ 16 := by omega
  have hkl : k ≤ len := by omega
  clear hk
  go_wp2_with fail
  go_loopw [2, 5, 6] (fun v2 v5 v6 wr => v2 = .bool false ∧ ∃ j : Nat, j ≤ k ∧ v5 = .int .i64 j ∧ (∃ sl, SK S wr S sl 16 (kfs zs j)) ∧ Below S w1 wr) (fun _ v5 _ _ => k - (intOf v5).toNat)
  case atStart => exact ⟨rfl, 0, Nat.zero_le _, rfl, ⟨_, by simpa [kfs] using h0⟩, hb0⟩
  case round =>
    obtain ⟨rfl, j, hj, rfl, ⟨sl, hst⟩, hbw⟩ := hrel
    have hSz := hst.lt
    by_cases hlt : j < k
    · have hcell : wr.cell? ⟨b, off + j, .none⟩ = some (.int .i64 (zs.getD j 0)) := by rw [hbw.cell (by exact hbS)]; exact hc1 j (by omega)
      have hzj := hz j
      have hjl : (j : Int) < (len : Int) := by omega
      generalize hzz : zs.getD j 0 = z at *
      go_upto_region 10 with fail
      obtain ⟨wo, rfl⟩ : ∃ wo : World, wo = wr := ⟨_, rfl⟩
      go_cut [6] (fun s6 wx => ∃ R, s6 = .slice (some ⟨R, 0, .none⟩) 2 2 ∧ wx.heap[R]? = some (.cells #[.int .i64 z, .int .i64 (wrap64 (z + 1))] 2 (0, 0)) ∧ Below wo.heap.size wo wx ∧ wo.heap.size ≤ R)
      case first =>
        go_region
        all_goals go_wp2_with fail
        all_goals go_meet
        all_goals exact ⟨_, rfl, heap_alloc_new wo _, by go_grown, Nat.le_refl _⟩
      case rest =>
        obtain ⟨R, rfl, hR, hbR, hRl⟩ := hcut
        have hst1 := hst.below hbR
        have hRlt : R < wc.heap.size := (Array.getElem?_eq_some_iff.1 hR).1
        have hRf : ∀ sl', (∀ k, sl'.ownBlock = some k → sl.ownBlock = some k ∨ wc.heap.size ≤ k) → ¬ foot S sl' R := by
          intro sl' hsl' hf
          rcases hf with rfl | hf
          · omega
          · rcases hsl' R hf with h | h
            · have := (hst.rowLt R h).2; omega
            · omega
        have hbf : b < wo.heap.size := by omega
        have hbb : ∀ sl', (∀ k, foot S sl' k → S ≤ k) → ¬ foot S sl' b := fun sl' h hf => by have := h b hf; omega
        have hcw : wc.cell? ⟨b, off + j, .none⟩ = some (.int .i64 z) := keepF hbR _ _ _ hcell
        clear hcell
        go_upto_region 13 with (go_at_call 16; refine (Push_any (zs := [z, wrap64 (z + 1)]) hst1 (by rw [kfs_length]; omega) (by simp) (by omega) (by omega) (fun a ha j v hv => by obtain rfl := Option.some.inj ha; exact World.news_of_block hR j v (by simpa using hv)) (fun h => by cases h)).mono ?_; rintro e w3 ⟨rfl, ho3, sl3, hsl3, h3⟩)
        have hR3 : w3.heap[R]? = some (.cells #[.int .i64 z, .int .i64 (wrap64 (z + 1))] 2 (0, 0)) := (ho3.block R hRlt (hRf sl (fun k hk => .inl hk))).trans hR
        have r0 := cell_of_row w3 R 0 _ _ (0, 0) hR3
        have fzr := cell_free_of hR3 0
        have hb3 := below_of_only hst1 ho3
        have hcw3 : w3.cell? ⟨b, off + j, .none⟩ = some (.int .i64 z) := by rw [hb3.cell (by exact hbS)]; exact hcw
        simp at r0
        go_upto_region 14 with fail
        have h4 : SK S (w3.setCell ⟨R, 0, .none⟩ (.int .i64 99)) S sl3 16 (kfs zs j ++ [⟨j, 0, padded [z, wrap64 (z + 1)]⟩]) := h3.blocks fun k hk => heap_setCell_other _ _ _ _ (fun e => hRf sl3 hsl3 (by rw [e] at hk; exact hk))
        have hb4 : Below S w3 (w3.setCell ⟨R, 0, .none⟩ (.int .i64 99)) := (Below.refl _ _).setCell (by show S ≤ R; omega) _
        have hcw4 : (w3.setCell ⟨R, 0, .none⟩ (.int .i64 99)).cell? ⟨b, off + j, .none⟩ = some (.int .i64 z) := by rw [hb4.cell (by exact hbS)]; exact hcw3
        generalize (w3.setCell ⟨R, 0, .none⟩ (.int .i64 99)) = w4 at *
        have hj3 : wrap64 ((j : Int) * 3) = (j : Int) * 3 := IntWalk.wrap64_in _ ⟨by omega, by omega⟩
        have hne : (kfs zs j ++ [(⟨j, 0, padded [z, wrap64 (z + 1)]⟩ : Fr)]).length ≠ 0 := by simp
        go_upto_region 15 with (go_at_call 21; refine (Go_any h4 hne).mono ?_; rintro e w5 ⟨rfl, ho5, h5⟩)
        have hcw5 : w5.cell? ⟨b, off + j, .none⟩ = some (.int .i64 z) := by rw [(below_of_only h4 ho5).cell (by exact hbS)]; exact hcw4
        go_wp2_with (go_at_call 18; refine (Set_any h5 (by rw [putLast_length hne]; exact hne) (by decide) (by decide)).mono ?_; rintro e w6 ⟨rfl, ho6, h6⟩)
        go_roundw
        case rel =>
          refine ⟨rfl, j + 1, by omega, by go_num, ⟨sl3, ?_⟩, ?_⟩
          · rw [putLast_snoc, putLast_snoc, Int.mul_comm (j : Int) 3] at h6
            rw [kfs_succ, ← kf_puts, hzz]
            exact h6
          · exact (((hbw.trans (hbR.mono (by omega))).trans hb3).trans (hb4.trans (below_of_only h4 ho5))).trans (below_of_only h5 ho6)
        case measure => simp [intOf]; omega
    · obtain rfl : j = k := by omega
      have hc1' := hc1
      clear hc1 h0 hb0 hlt hj
      go_wp2_with fail
      obtain ⟨wo, rfl⟩ : ∃ wo : World, wo = wr := ⟨_, rfl⟩
      go_loopw [2, 7] (fun v2 v7 wr => v2 = .bool false ∧ ∃ i : Nat, i ≤ j ∧ v7 = .int .i64 ((i : Int) - 1) ∧ (∃ sl, SK S wr S sl 16 (kfs zs i)) ∧ Below S w1 wr) (fun _ v7 _ => (intOf v7 + 1).toNat)
      case atStart => exact ⟨rfl, j, Nat.le_refl _, rfl, ⟨sl, hst⟩, hbw⟩
      case round =>
        obtain ⟨rfl, i, hi, rfl, ⟨sl2, hst2⟩, hbw2⟩ := hrel
        cases i with
        | zero =>
          have hpop : ∀ w', SK S w' S sl2 16 (kfs zs 0) → Calls Try.prog 22 #[.pointer (some ⟨S, 0, .none⟩)] w' fun e w'' => e = .returned (.tuple #[.agg #[.int .i64 0, .int .i64 0, .int .i64 0, .int .i64 0, .int .i64 0, .int .i64 0, .int .i64 0, .int .i64 0, .int .i64 0, .int .i64 0], .bool false]) ∧ Below w'.heap.size w' w'' := fun w' h => Pop_nil h rfl
          go_wp2_with (first
            | (go_at_call 22; refine (hpop _ hst2).mono ?_; rintro e w3 ⟨rfl, hb3⟩)
            | (go_at_call 20; refine (depth_any (hst2.below (belowTrans hb3 (by go_grown)))).mono ?_; rintro e w4 ⟨rfl, rfl⟩))
          go_ret
          refine ⟨by rfl, ?_⟩
          rw [← hS] at hbw2
          exact belowTrans hw1 ((hbw2.trans (hb3.mono (by have := hbw2.size; omega))).alloc (by have := hb3.size; have := hbw2.size; omega) _)
        | succ i =>
          have hpop : ∀ w', SK S w' S sl2 16 (kfs zs (i + 1)) → Calls Try.prog 22 #[.pointer (some ⟨S, 0, .none⟩)] w' fun e w'' => e = .returned (.tuple #[.agg #[.int .i64 i, .int .i64 (3 * (i : Int)), .int .i64 (zs.getD i 0), .int .i64 (wrap64 (zs.getD i 0 + 1)), .int .i64 0, .int .i64 0, .int .i64 0, .int .i64 0, .int .i64 0, .int .i64 (wrap64 (-(zs.getD i 0)))], .bool true]) ∧ Only (foot S sl2) w' w'' ∧ ∃ sl', sl'.ownBlock = sl2.ownBlock ∧ SK S w'' S sl' 16 (kfs zs i) := fun w' h => by
            have := Pop_any h (by simp [kfs_length])
            rw [kfs_succ, topFr_snoc, List.dropLast_concat] at this
            exact this
          have hcell : wr.cell? ⟨b, off + i, .none⟩ = some (.int .i64 (zs.getD i 0)) := by rw [hbw2.cell (by exact hbS)]; exact hc1' i (by omega)
          have hzi := hz i
          have hil : (i : Int) < (len : Int) := by omega
          generalize hzz : zs.getD i 0 = z at *
          go_upto_region 20 with (go_at_call 22; refine (hpop _ hst2).mono ?_; rintro e w3 ⟨rfl, ho3, sl3, hsl3, h3⟩)
          have hb3 := below_of_only hst2 ho3
          have hcell3 : w3.cell? ⟨b, off + i, .none⟩ = some (.int .i64 z) := by rw [hb3.cell (by exact hbS)]; exact hcell
          have hbw3 : b < w3.heap.size := cell_lt hcell3
          have hi3 : wrap64 (3 * (i : Int)) = 3 * (i : Int) := IntWalk.wrap64_in _ ⟨by omega, by omega⟩
          have hii : ((i + 1 : Nat) : Int) - 1 = (i : Int) := by omega
          go_quiet (fail)
          go_wp2_with fail
          have hbq : Below w3.heap.size w3 ((w3.alloc (.cells #[.int .i64 i, .int .i64 (3 * (i : Int)), .int .i64 z, .int .i64 (wrap64 (z + 1)), .int .i64 0, .int .i64 0, .int .i64 0, .int .i64 0, .int .i64 0, .int .i64 (wrap64 (-z))] 41)).drewN nq) := below_drewN ((Below.refl _ _).alloc (Nat.le_refl _) _) nq
          exact ⟨⟨rfl, i, by omega, rfl, ⟨sl3, h3.below hbq⟩, (hbw2.trans hb3).trans (hbq.mono (by have := h3.lt; omega))⟩, by simp [intOf]⟩

set_option maxRecDepth 100000 in
set_option maxHeartbeats 1000000 in
theorem frameKeeps_nil (ao : Option Addr) (cap : Nat) (w : World) :
    Calls Try.prog 5 #[.slice ao 0 cap] w fun e w' => e = .returned (.bool true) ∧ Below w.heap.size w w' := by
  have hnew : ∀ w, Calls Try.prog 15 #[.int .i64 16] w fun e w' => e = .returned (.pointer (some ⟨w.heap.size, 0, .none⟩)) ∧ w' = w.alloc (.cells #[.slice none 0 0, .int .i64 16] 80) := fun w => by
    have := new_any 16 w
    rw [if_neg (by omega)] at this
    exact this
  go_enter Try.func5, Try.ntmps5
  go_upto_region 6 with (first
    | (go_at_call 14; refine (frame_awake _).mono ?_; rintro e w1 ⟨rfl, hw1⟩)
    | (go_at_call 15; refine (hnew _).mono ?_; rintro e w' ⟨rfl, rfl⟩))
  have h0 := stk_new (B := w1.heap.size) (w := w1) (m := 16) (Nat.le_refl _)
  have hb0 : Below w1.heap.size w1 (w1.alloc (.cells #[.slice none 0 0, .int .i64 16] 80)) := (Below.refl _ _).alloc (Nat.le_refl _) _
  generalize (w1.alloc (.cells #[.slice none 0 0, .int .i64 16] 80)) = w2 at *
  generalize hS : w1.heap.size = S at *
  have hpop : ∀ w', SK S w' S (.slice none 0 0) 16 [] → Calls Try.prog 22 #[.pointer (some ⟨S, 0, .none⟩)] w' fun e w'' => e = .returned (.tuple #[.agg #[.int .i64 0, .int .i64 0, .int .i64 0, .int .i64 0, .int .i64 0, .int .i64 0, .int .i64 0, .int .i64 0, .int .i64 0, .int .i64 0], .bool false]) ∧ Below w'.heap.size w' w'' := fun w' h => Pop_nil h rfl
  go_wp2_with fail
  go_loop [5] (fun v5 => v5 = .int .i64 0) (fun v5 => 0)
  case atStart => rfl
  case round =>
    obtain rfl := hrel
    go_wp2_with fail
    go_loop [7] (fun v7 => v7 = .int .i64 (-1)) (fun v7 => 0)
    case atStart => rfl
    case round =>
      obtain rfl := hrel
      go_wp2_with (first
        | (go_at_call 22; refine (hpop _ h0).mono ?_; rintro e w3 ⟨rfl, hb3⟩)
        | (go_at_call 20; refine (depth_any (h0.below (belowTrans hb3 (by go_grown)))).mono ?_; rintro e w4 ⟨rfl, rfl⟩))
      go_ret
      refine ⟨by rfl, ?_⟩
      rw [← hS] at hb0
      exact belowTrans hw1 ((hb0.trans (hb3.mono (by have := hb0.size; omega))).alloc (by have := hb3.size; have := hb0.size; omega) _)
end Go.Proofs.Ytngglkefhinkgaa
