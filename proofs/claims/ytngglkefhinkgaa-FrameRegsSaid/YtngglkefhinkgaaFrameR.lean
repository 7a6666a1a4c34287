/- The law FrameRegs, walked. -/
import Derived.Test.YtngglkefhinkgaaFrameK
namespace Go.Proofs.Ytngglkefhinkgaa
open Go.RowKit

def bf (i : Nat) : Fr := ⟨i, 0, [10, 20, 0, 0, 0, 0, 0, 0]⟩
def bfs (n : Nat) : List Fr := (List.range n).map bf
theorem bfs_succ (n : Nat) : bfs (n + 1) = bfs n ++ [bf n] := by simp [bfs, List.range_succ]
theorem bfs_length (n : Nat) : (bfs n).length = n := by simp [bfs]
theorem put_regs (c p : Int) (ws : List Int) (r : Nat) (x : Int) : Fr.put ⟨c, p, ws⟩ (2 + r) x = ⟨c, p, ws.set r x⟩ := by
  simp [Fr.put, show ¬ 2 + r = 0 from by omega, show ¬ 2 + r = 1 from by omega]

set_option maxRecDepth 100000 in
set_option maxHeartbeats 1600000 in
theorem frameRegs_any (ao : Option Addr) (len cap : Nat) (rs xs : List Int) (d : Int) (w : World) (hlen : (len : Int) ≤ 100) (hd : 0 ≤ d) (hd' : d ≤ 255)
    (hc : ∀ j, j < len → ∃ b off, ao = some ⟨b, off, .none⟩ ∧ b < w.heap.size ∧ w.cell? ⟨b, off + j * 2, .none⟩ = some (.int .i8 (rs.getD j 0)) ∧ w.cell? ⟨b, off + j * 2 + 1, .none⟩ = some (.int .i8 (xs.getD j 0)))
    (hz : ∀ j, -128 ≤ rs.getD j 0 ∧ rs.getD j 0 ≤ 127 ∧ -128 ≤ xs.getD j 0 ∧ xs.getD j 0 ≤ 127) :
    Calls Try.prog 6 #[.slice ao len cap, .int .u8 d] w fun e w' => e = .returned (.bool true) ∧ Below w.heap.size w w' := by
  obtain ⟨k, hk⟩ := Int.eq_ofNat_of_zero_le (show 0 ≤ d % 16 by omega)
  have hk16 : k ≤ 15 := by omega
  have hkk : (1 : Int) + (k : Int) = ((k + 1 : Nat) : Int) := by omega
  have hnew : ∀ w, Calls Try.prog 15 #[.int .i64 ((k + 1 : Nat) : Int)] w fun e w' => e = .returned (.pointer (some ⟨w.heap.size, 0, .none⟩)) ∧ w' = w.alloc (.cells #[.slice none 0 0, .int .i64 ((k + 1 : Nat) : Int)] 80) := fun w => by
    have := new_any ((k + 1 : Nat) : Int) w
    rw [if_neg (by omega)] at this
    exact this
  generalize hK : k + 1 = K at *
  have hgt : decide ((100 : Int) < (len : Int)) = false := by simp; omega
  go_enter Try.func6, Try.ntmps6
  go_upto_region 9 with (first
    | (go_at_call 14; refine (frame_awake _).mono ?_; rintro e w1 ⟨rfl, hw1⟩)
    | (go_at_call 15; refine (hnew _).mono ?_; rintro e w' ⟨rfl, rfl⟩))
  have h0 := stk_new (B := w1.heap.size) (w := w1) (m := (K : Int)) (Nat.le_refl _)
  have hb0 : Below w1.heap.size w1 (w1.alloc (.cells #[.slice none 0 0, .int .i64 K] 80)) := (Below.refl _ _).alloc (Nat.le_refl _) _
  have hc1 : ∀ j, j < len → ∃ b off, ao = some ⟨b, off, .none⟩ ∧ b < w1.heap.size ∧ w1.cell? ⟨b, off + j * 2, .none⟩ = some (.int .i8 (rs.getD j 0)) ∧ w1.cell? ⟨b, off + j * 2 + 1, .none⟩ = some (.int .i8 (xs.getD j 0)) := fun j hj => by
    obtain ⟨b, off, h1, h2, h3, h4⟩ := hc j hj
    exact ⟨b, off, h1, by have := hw1.size; omega, keepF hw1 _ _ _ h3, keepF hw1 _ _ _ h4⟩
  generalize (w1.alloc (.cells #[.slice none 0 0, .int .i64 K] 80)) = w2 at *
  generalize hS : w1.heap.size = S at *
  clear hc hnew hd hd' hk hkk
  go_wp2_with fail
  go_loopw [4, 7] (fun v4 v7 wr => v4 = .bool false ∧ ∃ j : Nat, j ≤ K ∧ v7 = .int .i64 j ∧ (∃ sl, SK S wr S sl K (bfs j)) ∧ Below S w1 wr) (fun _ v7 _ => K - (intOf v7).toNat)
  case atStart => exact ⟨rfl, 0, Nat.zero_le _, rfl, ⟨_, by simpa [bfs] using h0⟩, hb0⟩
  case round =>
    obtain ⟨rfl, j, hj, rfl, ⟨sl, hst⟩, hbw⟩ := hrel
    have hSz := hst.lt
    by_cases hlt : j < K
    · go_wp2_with (go_at_call 16; refine (Push_new [10, 20] (by simp) hst (by rw [bfs_length]; omega) (by simp) (by omega) (by omega)).mono ?_; rintro e w3 ⟨rfl, ho3, sl3, hsl3, h3⟩)
      go_roundw
      case rel => exact ⟨rfl, j + 1, by omega, by go_num, ⟨sl3, by rw [bfs_succ]; exact h3⟩, hbw.trans (below_of_only hst ho3)⟩
      case measure => simp [intOf]; omega
    · obtain rfl : j = K := by omega
      clear h0 hb0
      obtain rfl : k + 1 = j := hK
      go_upto_region 15 with fail
      obtain ⟨wo, rfl⟩ : ∃ wo : World, wo = wr := ⟨_, rfl⟩
      have hst1 := hst.below ((Below.refl _ _).alloc (Nat.le_refl _) (.cells #[.int .i64 10, .int .i64 20, .int .i64 0, .int .i64 0, .int .i64 0, .int .i64 0, .int .i64 0, .int .i64 0] 39))
      have hV : (wo.alloc (.cells #[.int .i64 10, .int .i64 20, .int .i64 0, .int .i64 0, .int .i64 0, .int .i64 0, .int .i64 0, .int .i64 0] 39)).heap[wo.heap.size]? = some (.cells (([10, 20, 0, 0, 0, 0, 0, 0] : List Int).map (Value.int .i64)).toArray 39 (0, 0)) := heap_alloc_new wo _
      have hbV : Below S w1 (wo.alloc (.cells #[.int .i64 10, .int .i64 20, .int .i64 0, .int .i64 0, .int .i64 0, .int .i64 0, .int .i64 0, .int .i64 0] 39)) := hbw.alloc (by omega) _
      have hVf : ∀ k, foot S sl k → k < wo.heap.size := by
        rintro k (rfl | hk)
        · exact hst.lt
        · exact (hst.rowLt k hk).2
      have hSV : S < wo.heap.size := hst.lt
      rw [bfs_succ] at hst1
      generalize (wo.alloc (.cells #[.int .i64 10, .int .i64 20, .int .i64 0, .int .i64 0, .int .i64 0, .int .i64 0, .int .i64 0, .int .i64 0] 39)) = w4 at *
      generalize wo.heap.size = V at *
      clear hst hbw hlt hj hSz
      go_wp2_with fail
      go_loopw [4, 9] (fun v4 v9 wr => v4 = .bool false ∧ ∃ j : Nat, j ≤ len ∧ v9 = .int .i64 j ∧ ∃ ws : List Int, ws.length = 8 ∧ SK S wr S sl ((k + 1 : Nat) : Int) (bfs k ++ [⟨k, 0, ws⟩]) ∧ wr.heap[V]? = some (.cells (ws.map (Value.int .i64)).toArray 39 (0, 0)) ∧ Below S w1 wr) (fun _ v9 _ => len - (intOf v9).toNat)
      case atStart => exact ⟨rfl, 0, Nat.zero_le _, rfl, [10, 20, 0, 0, 0, 0, 0, 0], rfl, hst1, hV, hbV⟩
      case round =>
        obtain ⟨rfl, j, hj, rfl, ws, hws, hst, hV2, hbw⟩ := hrel
        clear hst1 hV hbV
        by_cases hlt : j < len
        · obtain ⟨b, off, hao, hbS, hcr, hcx⟩ := hc1 j hlt
          subst hao
          have hcr2 : wr.cell? ⟨b, off + j * 2, .none⟩ = some (.int .i8 (rs.getD j 0)) := by rw [hbw.cell (by exact hbS)]; exact hcr
          have hcx2 : wr.cell? ⟨b, off + j * 2 + 1, .none⟩ = some (.int .i8 (xs.getD j 0)) := by rw [hbw.cell (by exact hbS)]; exact hcx
          have hzz := hz j
          have hjl : (j : Int) < (len : Int) := by omega
          clear hc1 hcr hcx hz
          generalize rs.getD j 0 = r at *
          generalize xs.getD j 0 = x at *
          have hne : (bfs k ++ [(⟨k, 0, ws⟩ : Fr)]).length ≠ 0 := by simp
          have wr1 : IntKind.i64.wrap r = r := IntWalk.i64_in _ ⟨by omega, by omega⟩
          have wx1 : IntKind.i64.wrap x = x := IntWalk.i64_in _ ⟨by omega, by omega⟩
          by_cases hin : 0 ≤ r ∧ r < 8
          · obtain ⟨i, rfl⟩ := Int.eq_ofNat_of_zero_le hin.1
            have hi8 : i < 8 := by omega
            have hin2 : (i : Int) < 8 := by omega
            go_upto_region 22 with (go_at_call 18; refine (Set_any hst hne hin.1 hin2).mono ?_; rintro e w6 ⟨rfl, ho6, h6⟩)
            have hV6 : w6.heap[V]? = some (.cells (ws.map (Value.int .i64)).toArray 39 (0, 0)) := (ho6.block V (Array.getElem?_eq_some_iff.1 hV2).1 (fun hf => by have := hVf V hf; omega)).trans hV2
            have hb6 := below_of_only hst ho6
            have hcx6 : w6.cell? ⟨b, off + j * 2 + 1, .none⟩ = some (.int .i8 x) := by rw [hb6.cell (by exact hbS)]; exact hcx2
            have hcv : w6.cell? ⟨V, i, .none⟩ = some (.int .i64 (ws.getD i 0)) := by
              rw [cell_of_row w6 V i _ _ (0, 0) hV6]
              simp [List.getD_eq_getElem?_getD, show i < ws.length by omega]
            have fzv := cell_free_of hV6 i
            rw [putLast_snoc, put_regs, Int.toNat_natCast] at h6
            clear hcr2 hcx2 hV2
            have k1 : SK S (w6.setCell ⟨V, i, .none⟩ (.int .i64 x)) S sl ((k + 1 : Nat) : Int) (bfs k ++ [⟨k, 0, ws.set i x⟩]) := h6.blocks fun k' hk' => heap_setCell_other _ _ _ _ (fun e => by have := hVf k' hk'; have : k' = V := e; omega)
            have k2 : (w6.setCell ⟨V, i, .none⟩ (.int .i64 x)).heap[V]? = some (.cells ((ws.set i x).map (Value.int .i64)).toArray 39 (0, 0)) := by rw [heap_setCell_same w6 V i _ _ _ hV6]; simp [List.map_set]
            have k3 : Below S w1 (w6.setCell ⟨V, i, .none⟩ (.int .i64 x)) := (hbw.trans hb6).setCell (by show S ≤ V; omega) _
            have k4 : (ws.set i x).length = 8 := by simpa using hws
            go_wp2_with fail
            go_roundw
            case rel =>
              (repeat apply Exists.intro)
              exact ⟨⟨rfl, j + 1, by omega, by go_num, ws.set i x, k4, k1, k2, k3⟩, rfl⟩
            case measure => simp [intOf]; omega
          · have hno : (bfs k ++ [(⟨k, 0, ws⟩ : Fr)]).length = 0 ∨ r < 0 ∨ 8 ≤ r := by omega
            have hdn : (decide (0 ≤ r) && decide (r < 8)) = false := by
              rw [Bool.and_eq_false_iff]; simp only [decide_eq_false_iff_not]; omega
            by_cases hr0 : 0 ≤ r
            · have hr8 : 8 ≤ r := by omega
              go_wp2_with (go_at_call 18; refine (Set_no hst hno).mono ?_; rintro e w6 ⟨rfl, hb6⟩)
              go_roundw
              case rel =>
                (repeat apply Exists.intro)
                exact ⟨⟨rfl, j + 1, by omega, by go_num, ws, hws, hst.below hb6, (hb6.block V (Array.getElem?_eq_some_iff.1 hV2).1).trans hV2, hbw.trans (hb6.mono (by have := hst.lt; omega))⟩, rfl⟩
              case measure => simp [intOf]; omega
            · have hr8 : r < 0 := by omega
              go_wp2_with (go_at_call 18; refine (Set_no hst hno).mono ?_; rintro e w6 ⟨rfl, hb6⟩)
              go_roundw
              case rel =>
                (repeat apply Exists.intro)
                exact ⟨⟨rfl, j + 1, by omega, by go_num, ws, hws, hst.below hb6, (hb6.block V (Array.getElem?_eq_some_iff.1 hV2).1).trans hV2, hbw.trans (hb6.mono (by have := hst.lt; omega))⟩, rfl⟩
              case measure => simp [intOf]; omega
        · obtain rfl : j = len := by omega
          clear hc1 hlt hj
          obtain ⟨e0, e1, e2, e3, e4, e5, e6, e7, rfl⟩ := list8 hws
          have hpop : ∀ w', SK S w' S sl ((k + 1 : Nat) : Int) (bfs k ++ [⟨k, 0, [e0, e1, e2, e3, e4, e5, e6, e7]⟩]) → Calls Try.prog 22 #[.pointer (some ⟨S, 0, .none⟩)] w' fun e w'' => e = .returned (.tuple #[.agg #[.int .i64 k, .int .i64 0, .int .i64 e0, .int .i64 e1, .int .i64 e2, .int .i64 e3, .int .i64 e4, .int .i64 e5, .int .i64 e6, .int .i64 e7], .bool true]) ∧ Only (foot S sl) w' w'' ∧ ∃ sl', sl'.ownBlock = sl.ownBlock ∧ SK S w'' S sl' ((k + 1 : Nat) : Int) (bfs k) := fun w' h => by
            have := Pop_any h (by simp)
            rw [topFr_snoc, List.dropLast_concat] at this
            exact this
          go_upto_region 25 with (go_at_call 22; refine (hpop _ hst).mono ?_; rintro e w6 ⟨rfl, ho6, sl6, hsl6, h6⟩)
          have hV6 : w6.heap[V]? = some (.cells #[.int .i64 e0, .int .i64 e1, .int .i64 e2, .int .i64 e3, .int .i64 e4, .int .i64 e5, .int .i64 e6, .int .i64 e7] 39 (0, 0)) := (ho6.block V (Array.getElem?_eq_some_iff.1 hV2).1 (fun hf => by have := hVf V hf; omega)).trans hV2
          have hcv := fun i => cell_of_row w6 V i _ _ (0, 0) hV6
          have hVl : V < w6.heap.size := (Array.getElem?_eq_some_iff.1 hV6).1
          have hb6 := below_of_only hst ho6
          have hq : ∀ w : World, (binOp .neq 39 (.agg #[.int .i64 e0, .int .i64 e1, .int .i64 e2, .int .i64 e3, .int .i64 e4, .int .i64 e5, .int .i64 e6, .int .i64 e7]) (.agg #[.int .i64 e0, .int .i64 e1, .int .i64 e2, .int .i64 e3, .int .i64 e4, .int .i64 e5, .int .i64 e6, .int .i64 e7])).run Try.prog w = .ok (.bool false) w := fun w => by
            have := run_equalIn_regs w 9998 [e0, e1, e2, e3, e4, e5, e6, e7] [e0, e1, e2, e3, e4, e5, e6, e7] rfl rfl
            rw [run_neq_struct]
            simp only [List.map_cons, List.map_nil, beq_self_eq_true] at this
            rw [this]; rfl
          clear hV2 hst
          have hkk : ((k + 1 : Nat) : Int) - 1 = (k : Int) := by omega
          have hk2 : ((k + 1 : Nat) : Int) - 2 = (k : Int) - 1 := by omega
          go_wp2_with fail
          have h7 := h6.below ((Below.refl _ _).alloc (Nat.le_refl _) (.cells #[.int .i64 k, .int .i64 0, .int .i64 e0, .int .i64 e1, .int .i64 e2, .int .i64 e3, .int .i64 e4, .int .i64 e5, .int .i64 e6, .int .i64 e7] 41))
          have hb7 : Below S w1 (w6.alloc (.cells #[.int .i64 k, .int .i64 0, .int .i64 e0, .int .i64 e1, .int .i64 e2, .int .i64 e3, .int .i64 e4, .int .i64 e5, .int .i64 e6, .int .i64 e7] 41)) := (hbw.trans hb6).alloc (by have := h6.lt; omega) _
          have hq2 : ∀ w : World, (binOp .neq 39 (.agg #[.int .i64 10, .int .i64 20, .int .i64 0, .int .i64 0, .int .i64 0, .int .i64 0, .int .i64 0, .int .i64 0]) (.agg #[.int .i64 10, .int .i64 20, .int .i64 0, .int .i64 0, .int .i64 0, .int .i64 0, .int .i64 0, .int .i64 0])).run Try.prog w = .ok (.bool false) w := fun w => by
            have := run_equalIn_regs w 9998 [10, 20, 0, 0, 0, 0, 0, 0] [10, 20, 0, 0, 0, 0, 0, 0] rfl rfl
            rw [run_neq_struct]
            simp only [List.map_cons, List.map_nil, beq_self_eq_true] at this
            rw [this]; rfl
          generalize (w6.alloc (.cells #[.int .i64 k, .int .i64 0, .int .i64 e0, .int .i64 e1, .int .i64 e2, .int .i64 e3, .int .i64 e4, .int .i64 e5, .int .i64 e6, .int .i64 e7] 41)) = w7 at *
          clear hV6 hcv hVl hb6 hq hpop h6 ho6 hsl6 hbw hkk hk2
          go_loopw [4, 14] (fun v4 v14 wr => v4 = .bool false ∧ ∃ i : Nat, i ≤ k ∧ v14 = .int .i64 ((i : Int) - 1) ∧ (∃ sl, SK S wr S sl ((k + 1 : Nat) : Int) (bfs i)) ∧ Below S w1 wr) (fun _ v14 _ => (intOf v14 + 1).toNat)
          case atStart => exact ⟨rfl, k, Nat.le_refl _, by congr 1; omega, ⟨sl6, h7⟩, hb7⟩
          case round =>
            obtain ⟨rfl, i, hi, rfl, ⟨sl2, hst2⟩, hbw2⟩ := hrel
            cases i with
            | zero =>
              go_wp2_with (go_at_call 20; refine (depth_any hst2).mono ?_; rintro e w4 ⟨rfl, rfl⟩)
              go_ret
              refine ⟨by rfl, ?_⟩
              rw [← hS] at hbw2
              exact belowTrans hw1 hbw2
            | succ i =>
              have hpop : ∀ w', SK S w' S sl2 ((k + 1 : Nat) : Int) (bfs (i + 1)) → Calls Try.prog 22 #[.pointer (some ⟨S, 0, .none⟩)] w' fun e w'' => e = .returned (.tuple #[.agg #[.int .i64 i, .int .i64 0, .int .i64 10, .int .i64 20, .int .i64 0, .int .i64 0, .int .i64 0, .int .i64 0, .int .i64 0, .int .i64 0], .bool true]) ∧ Only (foot S sl2) w' w'' ∧ ∃ sl', sl'.ownBlock = sl2.ownBlock ∧ SK S w'' S sl' ((k + 1 : Nat) : Int) (bfs i) := fun w' h => by
                have := Pop_any h (by simp [bfs_length])
                rw [bfs_succ, topFr_snoc, List.dropLast_concat] at this
                exact this
              have hii : ((i + 1 : Nat) : Int) - 1 = (i : Int) := by omega
              go_wp2_with (go_at_call 22; refine (hpop _ hst2).mono ?_; rintro e w8 ⟨rfl, ho8, sl8, hsl8, h8⟩)
              have hb8 := below_of_only hst2 ho8
              have hbq : Below w8.heap.size w8 (w8.alloc (.cells #[.int .i64 i, .int .i64 0, .int .i64 10, .int .i64 20, .int .i64 0, .int .i64 0, .int .i64 0, .int .i64 0, .int .i64 0, .int .i64 0] 41)) := (Below.refl _ _).alloc (Nat.le_refl _) _
              exact ⟨⟨rfl, i, by omega, rfl, ⟨sl8, h8.below hbq⟩, (hbw2.trans hb8).trans (hbq.mono (by have := h8.lt; omega))⟩, by simp [intOf]⟩

set_option maxRecDepth 100000 in
set_option maxHeartbeats 400000 in
theorem frameRegs_long (ao : Option Addr) (len cap : Nat) (d : Int) (w : World) (hlen : (100 : Int) < (len : Int)) :
    Calls Try.prog 6 #[.slice ao len cap, .int .u8 d] w fun e w' => e = .returned (.bool true) ∧ Below w.heap.size w w' := by
  go_enter Try.func6, Try.ntmps6
  go_wp2_with (go_at_call 14; refine (frame_awake _).mono ?_; rintro e w1 ⟨rfl, hw1⟩)
  go_ret
  exact ⟨rfl, hw1⟩
end Go.Proofs.Ytngglkefhinkgaa
