/- The law FrameBounds, walked. -/
import Derived.Test.YtngglkefhinkgaaStkV
import Derived.Test.YtngglkefhinkgaaEqR
namespace Go.Proofs.Ytngglkefhinkgaa
open Go.RowKit

theorem stk_new {B : Nat} {w : World} {m : Int} (hB : B ≤ w.heap.size) : SK B (w.alloc (.cells #[.slice none 0 0, .int .i64 m] 80)) w.heap.size (.slice none 0 0) m [] :=
  ⟨hB, heap_alloc_new w _, World.ownsRow_nil _ _ _ _, by simp [Value.ownBlock], fun f hf => by cases hf⟩

theorem footGe {T E : TypeId} {B : Nat} {w : World} {s : Nat} {sl : Value} {most : Int} {fs : List Fr} (h : Stk T E B w s sl most fs) : ∀ k, foot s sl k → B ≤ k := by
  rintro k (rfl | hk)
  · exact h.lies
  · exact (h.rowLt k hk).1
/-- What a call on a stack leaves as it was below B. -/
theorem below_of_only {T E : TypeId} {B : Nat} {w w' : World} {s : Nat} {sl : Value} {most : Int} {fs : List Fr} (h : Stk T E B w s sl most fs) (ho : Only (foot s sl) w w') : Below B w w' :=
  ho.below (by have := h.lt; have := h.lies; omega) (footGe h)
theorem new_cells (w : World) (zs : List Int) (t : TypeId) : ∀ j v, (zs.map (Value.int .i64))[j]? = some v → (w.alloc (.cells (zs.map (Value.int .i64)).toArray t)).cell? ((⟨w.heap.size, 0, .none⟩ : Addr).add j) = some v :=
  fun j v hv => by
    have := World.news_of_block (w := w.alloc (.cells (zs.map (Value.int .i64)).toArray t)) (heap_alloc_new w _) j v (by simpa using hv)
    exact this
/-- A push of registers that lie in a block just made. -/
theorem Push_new (zs : List Int) (_hz0 : zs.length ≠ 0) {B : Nat} {w : World} {s n cap : Nat} {sl : Value} {most code : Int} {fs : List Fr} {cs : Array Value} {t : TypeId} (h : SK B w s sl most fs) (h1 : fs.length < most) (hz : zs.length ≤ 8) (hB : B ≤ w.heap.size) (hm : most ≤ 100000)
    (hcs : cs = (zs.map (Value.int .i64)).toArray := by rfl) (hn : n = zs.length := by rfl) :
    Calls Try.prog 16 #[.pointer (some ⟨s, 0, .none⟩), .int .i64 code, .slice (some ⟨w.heap.size, 0, .none⟩) n cap] (w.alloc (.cells cs t)) fun e w' => e = .returned (.bool true) ∧ Only (foot s sl) w w' ∧
      ∃ sl', (∀ k, sl'.ownBlock = some k → sl.ownBlock = some k ∨ w.heap.size ≤ k) ∧ SK B w' s sl' most (fs ++ [⟨code, 0, padded zs⟩]) := by
  subst hcs hn
  refine (Push_any (h.below ((Below.refl _ _).alloc (Nat.le_refl _) _)) h1 hz (by simp; omega) hm (fun a ha => by obtain rfl := Option.some.inj ha; exact new_cells w zs t) (fun h => by cases h)).mono ?_
  rintro e w' ⟨he, ho, sl', hs, hst⟩
  refine ⟨he, (Only.alloc (Only.refl _ _) _).trans ho (fun _ _ h => h), sl', fun k hk => ?_, hst⟩
  rcases hs k hk with h | h
  · exact .inl h
  · simp at h; exact .inr (by omega)

set_option maxHeartbeats 1000000 in
theorem frame_awake (w : World) :
    Calls Try.prog 14 #[] w fun e w' => e = .returned (.bool true) ∧ Below w.heap.size w w' := by
  have hnew := fun w => new_any 2 w
  simp at hnew
  go_enter Try.func14, Try.ntmps14
  go_upto_region 4 with (go_at_call 15; refine (hnew _).mono ?_; rintro e w' ⟨rfl, rfl⟩)
  have h0 := stk_new (B := w.heap.size) (w := w) (m := 2) (Nat.le_refl _)
  have hb0 : Below w.heap.size w (w.alloc (.cells #[.slice none 0 0, .int .i64 2] 80)) := (Below.refl _ _).alloc (Nat.le_refl _) _
  have hz0 : w.heap.size < (w.alloc (.cells #[.slice none 0 0, .int .i64 2] 80)).heap.size := by simp
  generalize (w.alloc (.cells #[.slice none 0 0, .int .i64 2] 80)) = w1 at *
  go_wp2_with (first
    | (go_at_call 16; refine (Push_new [1, 2] (by simp) h0 (by decide) (by decide) (by omega) (by decide)).mono ?_; rintro e w2 ⟨rfl, ho2, sl2, hsl2, h2⟩)
    | (go_at_call 25; refine (Get_any h2 (by simp) (by decide) (by decide)).mono ?_; rintro e w3 ⟨rfl, nq, rfl⟩)
    | (go_at_call 21; refine (Go_any (h2.below (below_drewN (Below.refl _ _) _)) (by simp)).mono ?_; rintro e w4 ⟨rfl, ho4, h4⟩)
    | (go_at_call 20; refine (depth_any h4).mono ?_; rintro e w5 ⟨rfl, rfl⟩))
  go_ret
  refine ⟨by rfl, hb0.trans ?_⟩
  exact ((below_of_only h0 ho2).trans (below_drewN (Below.refl _ _) _)).trans (below_of_only (h2.below (below_drewN (Below.refl _ _) _)) ho4)

theorem keepAll {w w' : World} {b : Nat} {C : Array Value} (hb : Below w.heap.size w w') (hl : b < w.heap.size) (h : ∀ i, w.cell? ⟨b, i, .none⟩ = C[i]?) : ∀ i, w'.cell? ⟨b, i, .none⟩ = C[i]? := fun i => by rw [hb.cell hl]; exact h i
theorem eqFrame (w : World) (a b c : Int) : (binOp .eql 41 (.agg #[.int .i64 a, .int .i64 b, .int .i64 c, .int .i64 0, .int .i64 0, .int .i64 0, .int .i64 0, .int .i64 0, .int .i64 0, .int .i64 0]) (.agg #[.int .i64 a, .int .i64 b, .int .i64 c, .int .i64 0, .int .i64 0, .int .i64 0, .int .i64 0, .int .i64 0, .int .i64 0, .int .i64 0])).run Try.prog w = .ok (.bool true) w := by
  have hu := Try.underlying41
  have hr := fun w => run_equalIn_regs w 9997 [c, 0, 0, 0, 0, 0, 0, 0] [c, 0, 0, 0, 0, 0, 0, 0] rfl rfl
  simp only [List.map_cons, List.map_nil, beq_self_eq_true] at hr
  simp [go_sem, hr]
theorem info64 : (Try.prog.info? 2).map (fun i => (i.zero, i.size, i.bytes)) = some (some (.int .i64 0), 1, 8) := by kernel_rfl
/-- make([]int64, 9 + m). -/
theorem make_ints (m : Nat) (hm : m ≤ 1000) : ∀ u : World, (Instr.makeSlice 44 (.int .i64 (9 + (m : Int))) (.int .i64 (9 + (m : Int)))).run Try.prog u = .ok (.slice (some ⟨u.heap.size, 0, .none⟩) (9 + m) (9 + m)) (u.alloc (.cells (madeCells #[.int .i64 0] (9 + m)) 2)) := fun u => by
  obtain ⟨i0, hi, hz0, hz1, hz2⟩ := info_parts info64
  have h := run_make (P := Try.prog) u 44 2 i0 (.int .i64 0) Try.underlying44 hi hz0 .i64 .i64 (9 + (m : Int)) (9 + (m : Int)) (by omega) (Int.le_refl _) (by rw [hz2]; omega) (by omega)
  have e : (9 + (m : Int)).toNat = 9 + m := by omega
  rw [e] at h
  simpa [hz1, Value.cells] using h
/-- The frames that so many pushes leave. -/
def frs (n : Nat) : List Fr := (List.range n).map fun (i : Nat) => ⟨i, 0, padded [(i : Int)]⟩
theorem frs_succ (n : Nat) : frs (n + 1) = frs n ++ [⟨n, 0, padded [(n : Int)]⟩] := by simp [frs, List.range_succ]
theorem frs_length (n : Nat) : (frs n).length = n := by simp [frs]
theorem topFr_frs (n : Nat) : topFr (frs (n + 1)) = ⟨n, 0, padded [(n : Int)]⟩ := by rw [frs_succ, topFr_snoc]

set_option maxRecDepth 100000 in
set_option maxHeartbeats 1000000 in
theorem frameBounds_any (a b c : Int) (w : World) (ha : 0 ≤ a) (ha' : a ≤ 255) (hb : 0 ≤ b) (hb' : b ≤ 255) (hc : 0 ≤ c) (hc' : c ≤ 255) :
    Calls Try.prog 4 #[.int .u8 a, .int .u8 b, .int .u8 c] w fun e w' => e = .returned (.bool true) ∧ Below w.heap.size w w' := by
  obtain ⟨k, hk⟩ := Int.eq_ofNat_of_zero_le (show 0 ≤ a % 17 by omega)
  obtain ⟨n, hn⟩ := Int.eq_ofNat_of_zero_le (show 0 ≤ b % 40 by omega)
  obtain ⟨m, hm⟩ := Int.eq_ofNat_of_zero_le (show 0 ≤ c % 20 by omega)
  have hk16 : k ≤ 16 := by omega
  have hn39 : n ≤ 39 := by omega
  have hm19 : m ≤ 19 := by omega
  have hnew : ∀ w, Calls Try.prog 15 #[.int .i64 k] w fun e w' => e = .returned (.pointer (some ⟨w.heap.size, 0, .none⟩)) ∧ w' = w.alloc (.cells #[.slice none 0 0, .int .i64 k] 80) := fun w => by
    have := new_any k w
    rw [if_neg (by omega)] at this
    exact this
  go_enter Try.func4, Try.ntmps4
  go_wp2_with (first
    | (go_at_call 14; refine (frame_awake _).mono ?_; rintro e w1 ⟨rfl, hw1⟩)
    | (go_at_call 15; refine (hnew _).mono ?_; rintro e w' ⟨rfl, rfl⟩))
  have h0 := stk_new (B := w1.heap.size) (w := w1) (m := k) (Nat.le_refl _)
  have hb0 : Below w1.heap.size w1 (w1.alloc (.cells #[.slice none 0 0, .int .i64 k] 80)) := (Below.refl _ _).alloc (Nat.le_refl _) _
  generalize (w1.alloc (.cells #[.slice none 0 0, .int .i64 k] 80)) = w2 at *
  generalize hS : w1.heap.size = S at *
  go_loopw [6, 9] (fun v6 v9 wr => v6 = .bool false ∧ ∃ j : Nat, j ≤ n ∧ v9 = .int .i64 j ∧ (∃ sl, SK S wr S sl k (frs (min j k))) ∧ Below S w1 wr) (fun _ v9 _ => n - (intOf v9).toNat)
  case atStart => exact ⟨rfl, 0, Nat.zero_le _, rfl, ⟨_, by simpa [frs] using h0⟩, hb0⟩
  case round =>
    obtain ⟨rfl, j, hj, rfl, ⟨sl, hst⟩, hbw⟩ := hrel
    have hSz := hst.lt
    by_cases hlt : j < n
    · by_cases hjk : j < k
      · have hmin : min j k = j := by omega
        have hmin' : min (j + 1) k = j + 1 := by omega
        have hdec : decide ((j : Int) < (k : Int)) = true := by simpa using hjk
        rw [hmin] at hst
        go_wp2_with (go_at_call 16; refine (Push_new [(j : Int)] (by simp) hst (by rw [frs_length]; omega) (by simp) (by omega) (by omega)).mono ?_; rintro e w3 ⟨rfl, ho3, sl3, hsl3, h3⟩)
        go_roundw
        case rel => exact ⟨rfl, j + 1, by omega, by go_num, ⟨sl3, by rw [hmin', frs_succ]; exact h3⟩, hbw.trans (below_of_only hst ho3)⟩
        case measure => simp [intOf]; omega
      · have hmin : min j k = k := by omega
        have hmin' : min (j + 1) k = k := by omega
        have hdec : decide ((j : Int) < (k : Int)) = false := by simpa using hjk
        rw [hmin] at hst
        go_wp2_with (go_at_call 16; refine (Push_no (hst.below ((Below.refl _ _).alloc (Nat.le_refl _) _)) (.inl (by rw [frs_length]; omega))).mono ?_; rintro e w3 ⟨rfl, nq, rfl⟩)
        go_roundw
        case rel =>
          have hbb : Below wr.heap.size wr ((wr.alloc (.cells #[.int .i64 j] 2)).drewN nq) := below_drewN ((Below.refl _ _).alloc (Nat.le_refl _) _) _
          exact ⟨rfl, j + 1, by omega, by go_num, ⟨sl, by rw [hmin']; exact hst.below hbb⟩, hbw.trans (hbb.mono (by omega))⟩
        case measure => simp [intOf]; omega
    · obtain rfl : j = n := by omega
      obtain ⟨hmk, hd0, hdec1⟩ : (∀ u : World, (Instr.makeSlice 44 (.int .i64 (9 + (m : Int))) (.int .i64 (9 + (m : Int)))).run Try.prog u = .ok (.slice (some ⟨u.heap.size, 0, .none⟩) (9 + m) (9 + m)) (u.alloc (.cells (madeCells #[.int .i64 0] (9 + m)) 2))) ∧ True ∧ True := ⟨make_ints m (by omega), trivial, trivial⟩
      have hmin : ∃ d : Nat, min j k = d ∧ d ≤ 16 := ⟨_, rfl, by omega⟩
      obtain ⟨d, hd, hd16⟩ := hmin
      have hmi : min (j : Int) (k : Int) = (d : Int) := by omega
      rw [hd] at hst
      cases d with
      | zero =>
        have htop : ∀ w' sl, SK S w' S sl k (frs 0) → Calls Try.prog 17 #[.pointer (some ⟨S, 0, .none⟩)] w' fun e w'' => e = .returned (.tuple #[.agg #[.int .i64 0, .int .i64 0, .int .i64 0, .int .i64 0, .int .i64 0, .int .i64 0, .int .i64 0, .int .i64 0, .int .i64 0, .int .i64 0], .bool false]) ∧ Below w'.heap.size w' w'' := fun w' sl h => Top_any h
        have hne : ∀ r : Int, (frs 0).length = 0 ∨ r < 0 ∨ 8 ≤ r := fun r => .inl rfl
        go_upto_region 13 with (go_at_call 17; refine (htop _ _ hst).mono ?_; rintro e w4 ⟨rfl, hb4⟩)
        have h4 := (hst.below hb4).below ((Below.refl _ _).alloc (Nat.le_refl _) (.cells #[.int .i64 0, .int .i64 0, .int .i64 0, .int .i64 0, .int .i64 0, .int .i64 0, .int .i64 0, .int .i64 0, .int .i64 0, .int .i64 0] 41))
        have hF := fun i => cell_of_row (w4.alloc (.cells #[.int .i64 0, .int .i64 0, .int .i64 0, .int .i64 0, .int .i64 0, .int .i64 0, .int .i64 0, .int .i64 0, .int .i64 0, .int .i64 0] 41)) w4.heap.size i _ _ (0, 0) (heap_alloc_new w4 _)
        have hb5 : Below S w1 (w4.alloc (.cells #[.int .i64 0, .int .i64 0, .int .i64 0, .int .i64 0, .int .i64 0, .int .i64 0, .int .i64 0, .int .i64 0, .int .i64 0, .int .i64 0] 41)) := (hbw.trans (hb4.mono (by omega))).alloc (by have := hb4.size; omega) _
        have hFl : w4.heap.size < (w4.alloc (.cells #[.int .i64 0, .int .i64 0, .int .i64 0, .int .i64 0, .int .i64 0, .int .i64 0, .int .i64 0, .int .i64 0, .int .i64 0, .int .i64 0] 41)).heap.size := by simp
        have hFs : ∀ k, foot S sl k → k < w4.heap.size := by
          have := hb4.size
          rintro k (rfl | hk)
          · omega
          · have := (hst.rowLt k hk).2; omega
        generalize (w4.alloc (.cells #[.int .i64 0, .int .i64 0, .int .i64 0, .int .i64 0, .int .i64 0, .int .i64 0, .int .i64 0, .int .i64 0, .int .i64 0, .int .i64 0] 41)) = W4 at *
        generalize w4.heap.size = F at *
        clear hb4 hbw hst
        go_upto_region 16 with (first
          | (go_at_call 16; refine (Push_no (h4.below (by go_grown)) (.inr (by omega))).mono ?_; rintro e w5 ⟨rfl, nq, rfl⟩; have hb6 : Below W4.heap.size W4 ((W4.alloc (.cells (madeCells #[.int .i64 0] (9 + m)) 2)).drewN nq) := below_drewN (by go_grown) nq)
          | (go_at_call 18; refine (Set_no (h4.below hb6) (by omega)).mono ?_; rintro e w6 ⟨rfl, hb7⟩; have hb6 := belowTrans hb6 hb7))
        have h6 := h4.below hb6
        have hF6 := keepAll hb6 hFl hF
        have hFl6 : F < w6.heap.size := by have := hb6.size; omega
        have hb8 : Below S w1 w6 := hb5.trans (hb6.mono (by have := h4.lt; omega))
        clear hF hb6 hb7 h4 hb5
        go_upto_region 17 with (go_at_call 17; refine (htop _ _ h6).mono ?_; rintro e w7 ⟨rfl, hb9⟩)
        have h7 := (h6.below hb9).below ((Below.refl _ _).alloc (Nat.le_refl _) (.cells #[.int .i64 0, .int .i64 0, .int .i64 0, .int .i64 0, .int .i64 0, .int .i64 0, .int .i64 0, .int .i64 0, .int .i64 0, .int .i64 0] 41))
        have hG := fun i => cell_of_row (w7.alloc (.cells #[.int .i64 0, .int .i64 0, .int .i64 0, .int .i64 0, .int .i64 0, .int .i64 0, .int .i64 0, .int .i64 0, .int .i64 0, .int .i64 0] 41)) w7.heap.size i _ _ (0, 0) (heap_alloc_new w7 _)
        have hF7 := keepAll (belowTrans hb9 ((Below.refl _ _).alloc (Nat.le_refl _) (.cells #[.int .i64 0, .int .i64 0, .int .i64 0, .int .i64 0, .int .i64 0, .int .i64 0, .int .i64 0, .int .i64 0, .int .i64 0, .int .i64 0] 41))) hFl6 hF6
        have hb10 : Below S w1 (w7.alloc (.cells #[.int .i64 0, .int .i64 0, .int .i64 0, .int .i64 0, .int .i64 0, .int .i64 0, .int .i64 0, .int .i64 0, .int .i64 0, .int .i64 0] 41)) := (hb8.trans (hb9.mono (by have := h6.lt; omega))).alloc (by have := hb9.size; have := h6.lt; omega) _
        have hGl : w7.heap.size < (w7.alloc (.cells #[.int .i64 0, .int .i64 0, .int .i64 0, .int .i64 0, .int .i64 0, .int .i64 0, .int .i64 0, .int .i64 0, .int .i64 0, .int .i64 0] 41)).heap.size := by simp
        have hFG : F < w7.heap.size := by have := hb9.size; omega
        have hFl7 : F < (w7.alloc (.cells #[.int .i64 0, .int .i64 0, .int .i64 0, .int .i64 0, .int .i64 0, .int .i64 0, .int .i64 0, .int .i64 0, .int .i64 0, .int .i64 0] 41)).heap.size := by omega
        generalize (w7.alloc (.cells #[.int .i64 0, .int .i64 0, .int .i64 0, .int .i64 0, .int .i64 0, .int .i64 0, .int .i64 0, .int .i64 0, .int .i64 0, .int .i64 0] 41)) = W7 at *
        generalize w7.heap.size = G at *
        clear hb9 hb8 hF6 h6
        go_cut [15] (fun s15 wx => s15 = .int .i64 0 ∧ wx = W7)
        case first =>
          go_wp2_with fail
          all_goals go_meet
          all_goals exact ⟨by congr 1; omega, rfl⟩
        case rest =>
        obtain ⟨rfl, rfl⟩ := hcut
        go_upto_region 19 with (go_at_call 19; refine (Clear_any h7).mono ?_; rintro e w8 ⟨rfl, ho8, h8⟩)
        have hF8 : ∀ i, w8.cell? ⟨F, i, .none⟩ = (#[.int .i64 0, .int .i64 0, .int .i64 0, .int .i64 0, .int .i64 0, .int .i64 0, .int .i64 0, .int .i64 0, .int .i64 0, .int .i64 0] : Array Value)[i]? := fun i => (World.cell?_of_block (ho8.block F hFl7 (fun hf => by have := hFs F hf; omega))).trans (hF7 i)
        have hG8 : ∀ i, w8.cell? ⟨G, i, .none⟩ = (#[.int .i64 0, .int .i64 0, .int .i64 0, .int .i64 0, .int .i64 0, .int .i64 0, .int .i64 0, .int .i64 0, .int .i64 0, .int .i64 0] : Array Value)[i]? := fun i => (World.cell?_of_block (ho8.block G hGl (fun hf => by have := hFs G hf; omega))).trans (hG i)
        have hb11 : Below S w1 w8 := hb10.trans (below_of_only h7 ho8)
        clear hF7 hG hb10 ho8 hFs
        have hq := fun w : World => eqFrame w 0 0 0
        go_wp2_with (first
          | (go_at_call 20; refine (depth_any h8).mono ?_; rintro e w9 ⟨rfl, rfl⟩)
          | (go_at_call 21; refine (Go_nil h8 rfl).mono ?_; rintro e w10 ⟨rfl, hb12⟩))
        go_ret
        refine ⟨by rfl, ?_⟩
        rw [← hS] at hb11
        exact belowTrans hw1 (hb11.trans (hb12.mono (by have := h8.lt; omega)))

      | succ d =>
        have htop : ∀ w' sl, SK S w' S sl k (frs (d + 1)) → Calls Try.prog 17 #[.pointer (some ⟨S, 0, .none⟩)] w' fun e w'' => e = .returned (.tuple #[.agg #[.int .i64 d, .int .i64 0, .int .i64 d, .int .i64 0, .int .i64 0, .int .i64 0, .int .i64 0, .int .i64 0, .int .i64 0, .int .i64 0], .bool true]) ∧ Below w'.heap.size w' w'' := fun w' sl h => by
          have := Top_any h
          rw [topFr_frs, frs_length] at this
          simpa [Fr.cells, padded] using this
        go_upto_region 13 with (go_at_call 17; refine (htop _ _ hst).mono ?_; rintro e w4 ⟨rfl, hb4⟩)
        have h4 := (hst.below hb4).below ((Below.refl _ _).alloc (Nat.le_refl _) (.cells #[.int .i64 d, .int .i64 0, .int .i64 d, .int .i64 0, .int .i64 0, .int .i64 0, .int .i64 0, .int .i64 0, .int .i64 0, .int .i64 0] 41))
        have hF := fun i => cell_of_row (w4.alloc (.cells #[.int .i64 d, .int .i64 0, .int .i64 d, .int .i64 0, .int .i64 0, .int .i64 0, .int .i64 0, .int .i64 0, .int .i64 0, .int .i64 0] 41)) w4.heap.size i _ _ (0, 0) (heap_alloc_new w4 _)
        have hb5 : Below S w1 (w4.alloc (.cells #[.int .i64 d, .int .i64 0, .int .i64 d, .int .i64 0, .int .i64 0, .int .i64 0, .int .i64 0, .int .i64 0, .int .i64 0, .int .i64 0] 41)) := (hbw.trans (hb4.mono (by omega))).alloc (by have := hb4.size; omega) _
        have hFl : w4.heap.size < (w4.alloc (.cells #[.int .i64 d, .int .i64 0, .int .i64 d, .int .i64 0, .int .i64 0, .int .i64 0, .int .i64 0, .int .i64 0, .int .i64 0, .int .i64 0] 41)).heap.size := by simp
        have hFs : ∀ k, foot S sl k → k < w4.heap.size := by
          have := hb4.size
          rintro k (rfl | hk)
          · omega
          · have := (hst.rowLt k hk).2; omega
        generalize (w4.alloc (.cells #[.int .i64 d, .int .i64 0, .int .i64 d, .int .i64 0, .int .i64 0, .int .i64 0, .int .i64 0, .int .i64 0, .int .i64 0, .int .i64 0] 41)) = W4 at *
        generalize w4.heap.size = F at *
        clear hb4 hbw hst
        go_upto_region 16 with (first
          | (go_at_call 16; refine (Push_no (h4.below (by go_grown)) (.inr (by omega))).mono ?_; rintro e w5 ⟨rfl, nq, rfl⟩; have hb6 : Below W4.heap.size W4 ((W4.alloc (.cells (madeCells #[.int .i64 0] (9 + m)) 2)).drewN nq) := below_drewN (by go_grown) nq)
          | (go_at_call 18; refine (Set_no (h4.below hb6) (by omega)).mono ?_; rintro e w6 ⟨rfl, hb7⟩; have hb6 := belowTrans hb6 hb7))
        have h6 := h4.below hb6
        have hF6 := keepAll hb6 hFl hF
        have hFl6 : F < w6.heap.size := by have := hb6.size; omega
        have hb8 : Below S w1 w6 := hb5.trans (hb6.mono (by have := h4.lt; omega))
        clear hF hb6 hb7 h4 hb5
        go_upto_region 17 with (go_at_call 17; refine (htop _ _ h6).mono ?_; rintro e w7 ⟨rfl, hb9⟩)
        have h7 := (h6.below hb9).below ((Below.refl _ _).alloc (Nat.le_refl _) (.cells #[.int .i64 d, .int .i64 0, .int .i64 d, .int .i64 0, .int .i64 0, .int .i64 0, .int .i64 0, .int .i64 0, .int .i64 0, .int .i64 0] 41))
        have hG := fun i => cell_of_row (w7.alloc (.cells #[.int .i64 d, .int .i64 0, .int .i64 d, .int .i64 0, .int .i64 0, .int .i64 0, .int .i64 0, .int .i64 0, .int .i64 0, .int .i64 0] 41)) w7.heap.size i _ _ (0, 0) (heap_alloc_new w7 _)
        have hF7 := keepAll (belowTrans hb9 ((Below.refl _ _).alloc (Nat.le_refl _) (.cells #[.int .i64 d, .int .i64 0, .int .i64 d, .int .i64 0, .int .i64 0, .int .i64 0, .int .i64 0, .int .i64 0, .int .i64 0, .int .i64 0] 41))) hFl6 hF6
        have hb10 : Below S w1 (w7.alloc (.cells #[.int .i64 d, .int .i64 0, .int .i64 d, .int .i64 0, .int .i64 0, .int .i64 0, .int .i64 0, .int .i64 0, .int .i64 0, .int .i64 0] 41)) := (hb8.trans (hb9.mono (by have := h6.lt; omega))).alloc (by have := hb9.size; have := h6.lt; omega) _
        have hGl : w7.heap.size < (w7.alloc (.cells #[.int .i64 d, .int .i64 0, .int .i64 d, .int .i64 0, .int .i64 0, .int .i64 0, .int .i64 0, .int .i64 0, .int .i64 0, .int .i64 0] 41)).heap.size := by simp
        have hFG : F < w7.heap.size := by have := hb9.size; omega
        have hFl7 : F < (w7.alloc (.cells #[.int .i64 d, .int .i64 0, .int .i64 d, .int .i64 0, .int .i64 0, .int .i64 0, .int .i64 0, .int .i64 0, .int .i64 0, .int .i64 0] 41)).heap.size := by omega
        generalize (w7.alloc (.cells #[.int .i64 d, .int .i64 0, .int .i64 d, .int .i64 0, .int .i64 0, .int .i64 0, .int .i64 0, .int .i64 0, .int .i64 0, .int .i64 0] 41)) = W7 at *
        generalize w7.heap.size = G at *
        clear hb9 hb8 hF6 h6
        go_cut [15] (fun s15 wx => s15 = .int .i64 ((d + 1 : Nat) : Int) ∧ wx = W7)
        case first =>
          go_wp2_with fail
          all_goals go_meet
          all_goals exact ⟨by congr 1; omega, rfl⟩
        case rest =>
        obtain ⟨rfl, rfl⟩ := hcut
        go_upto_region 19 with (go_at_call 19; refine (Clear_any h7).mono ?_; rintro e w8 ⟨rfl, ho8, h8⟩)
        have hF8 : ∀ i, w8.cell? ⟨F, i, .none⟩ = (#[.int .i64 d, .int .i64 0, .int .i64 d, .int .i64 0, .int .i64 0, .int .i64 0, .int .i64 0, .int .i64 0, .int .i64 0, .int .i64 0] : Array Value)[i]? := fun i => (World.cell?_of_block (ho8.block F hFl7 (fun hf => by have := hFs F hf; omega))).trans (hF7 i)
        have hG8 : ∀ i, w8.cell? ⟨G, i, .none⟩ = (#[.int .i64 d, .int .i64 0, .int .i64 d, .int .i64 0, .int .i64 0, .int .i64 0, .int .i64 0, .int .i64 0, .int .i64 0, .int .i64 0] : Array Value)[i]? := fun i => (World.cell?_of_block (ho8.block G hGl (fun hf => by have := hFs G hf; omega))).trans (hG i)
        have hb11 : Below S w1 w8 := hb10.trans (below_of_only h7 ho8)
        clear hF7 hG hb10 ho8 hFs
        have hq := fun w : World => eqFrame w d 0 d
        go_wp2_with (first
          | (go_at_call 20; refine (depth_any h8).mono ?_; rintro e w9 ⟨rfl, rfl⟩)
          | (go_at_call 21; refine (Go_nil h8 rfl).mono ?_; rintro e w10 ⟨rfl, hb12⟩))
        go_ret
        refine ⟨by rfl, ?_⟩
        rw [← hS] at hb11
        exact belowTrans hw1 (hb11.trans (hb12.mono (by have := h8.lt; omega)))

end Go.Proofs.Ytngglkefhinkgaa
