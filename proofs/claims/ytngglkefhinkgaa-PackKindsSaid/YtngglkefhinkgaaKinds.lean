/- The walk of the law PackKinds. -/
import Derived.Test.YtngglkefhinkgaaKindsP
import Derived.Deep.DrawnRows
namespace Go.Proofs.Ytngglkefhinkgaa
open Go.RowKit
attribute [local go_sem ↓] Go.wp_at_zero Go.wp_at_succ

set_option maxRecDepth 100000 in
set_option maxHeartbeats 40000000 in
theorem kinds_law (p c m n0 n1 n2 bit : Int) (w : World) (h0 : 0 ≤ n0 ∧ n0 ≤ 255) (h1 : 0 ≤ n1 ∧ n1 ≤ 255) (h2 : 0 ≤ n2 ∧ n2 ≤ 255) (hbit : 0 ≤ bit ∧ bit ≤ 255) :
    Calls Try.prog 8 #[.agg #[.int .i64 p, .int .i64 c, .int .i64 m], .agg #[.int .u8 n0, .int .u8 n1, .int .u8 n2], .int .u8 bit] w fun e w' => e = .returned (.bool true) ∧ Below w.heap.size w w' := by
  by_cases hm : mayB p c m = true
  · have hmm := mayB_iff.1 hm
    go_enter Try.func8, Try.ntmps8
    obtain ⟨bS, bN, hsz, hbW⟩ := two_blocks w (.cells #[.int .i64 p, .int .i64 c, .int .i64 m] 68) (.cells #[.int .u8 n0, .int .u8 n1, .int .u8 n2] 22)
    go_upto_region 5 with (first
      | (go_at_call 9; refine (pa_awake _).mono ?_; rintro e w1 ⟨rfl, hb1⟩; have hc := bcell hb1)
      | (go_at_call 26; refine (refMay_any _ _ _ _).mono ?_; rintro e w1 ⟨rfl, rfl⟩))
    have hs1 : w.heap.size + 2 ≤ w1.heap.size := by have := hb1.size; rw [hsz] at this; exact this
    have hbA := Below.refl w1.heap.size w1 |>.alloc (Nat.le_refl _) (.cells #[.int .i64 p, .int .i64 c, .int .i64 m] 68)
    have hb2 : Below w.heap.size w (w1.alloc (.cells #[.int .i64 p, .int .i64 c, .int .i64 m] 68)) := (hbW.trans (hb1.mono (by omega))).alloc (by omega) _
    have cS : ∀ i, (w1.alloc (.cells #[.int .i64 p, .int .i64 c, .int .i64 m] 68)).cell? ⟨w.heap.size, i, .none⟩ = #[Value.int .i64 p, .int .i64 c, .int .i64 m][i]? := fun i => by
      rw [bcell hbA _ _ (by omega), hc _ _ (by omega)]; exact rowCells bS i
    have cN : ∀ i, (w1.alloc (.cells #[.int .i64 p, .int .i64 c, .int .i64 m] 68)).cell? ⟨w.heap.size + 1, i, .none⟩ = #[Value.int .u8 n0, .int .u8 n1, .int .u8 n2][i]? := fun i => by
      rw [bcell hbA _ _ (by omega), hc _ _ (by omega)]; exact rowCells bN i
    have hsz1 : w.heap.size + 2 < (w1.alloc (.cells #[.int .i64 p, .int .i64 c, .int .i64 m] 68)).heap.size := by simp; omega
    generalize (w1.alloc (.cells #[.int .i64 p, .int .i64 c, .int .i64 m] 68)) = W1 at *
    generalize hH : w.heap.size = H at *
    clear bS bN hsz hbW hb1 hc hs1 hbA w1
    go_quiet (fail)
    have hd0 : 0 ≤ n0 % c := Int.emod_nonneg _ (by omega)
    have hd1 : n0 % c < c := Int.emod_lt_of_pos _ (by omega)
    have hq0 : 0 ≤ n1 % p := Int.emod_nonneg _ (by omega)
    have hq1 : n1 % p < p := Int.emod_lt_of_pos _ (by omega)
    have hk0 : 0 ≤ n2 % 4 := Int.emod_nonneg _ (by omega)
    have hk1 : n2 % 4 < 4 := Int.emod_lt_of_pos _ (by omega)
    generalize n0 % c = d at *
    generalize n1 % p = q at *
    generalize n2 % 4 = k at *
    clear cN h0 h1 h2
    have hP1 : ∀ w, Calls Try.prog 10 #[.agg #[.int .i64 1, .int .i64 d, .int .i64 0]] w fun e w' => e = .returned (.int .u64 (1 + 16 * d)) ∧ Below w.heap.size w w' := fun w => kp1 d hd0 (by omega) ▸ putPage_any 1 d 0 w
    have hR1 := readPage_ok (p := p) (c := c) (m := m) (q := q) (x := 1 + 16 * d) (k := 1) (a := d) (b := 0) hm hq0 (by omega) (by omega) (by omega) (by omega) (by omega) (kp1 d hd0 (by omega)) (by simp [fitsB]; omega)
    have hP2 : ∀ w, Calls Try.prog 10 #[.agg #[.int .i64 2, .int .i64 k, .int .i64 d]] w fun e w' => e = .returned (.int .u64 (2 + 16 * k + 4096 * d)) ∧ Below w.heap.size w w' := fun w => kp2 k d hk0 (by omega) hd0 (by omega) ▸ putPage_any 2 k d w
    have hR2 := readPage_ok (p := p) (c := c) (m := m) (q := q) (x := 2 + 16 * k + 4096 * d) (k := 2) (a := k) (b := d) hm hq0 (by omega) (by omega) (by omega) (by omega) (by omega) (kp2 k d hk0 (by omega) hd0 (by omega)) (by simp [fitsB]; omega)
    have e3 : pageV 3 1 0 = 19 := by decide
    have hP3 : ∀ w, Calls Try.prog 10 #[.agg #[.int .i64 3, .int .i64 1, .int .i64 0]] w fun e w' => e = .returned (.int .u64 19) ∧ Below w.heap.size w w' := fun w => e3 ▸ putPage_any 3 1 0 w
    have hR3 := readPage_ok (p := p) (c := c) (m := m) (q := q) (x := 19) (k := 3) (a := 1) (b := 0) hm hq0 (by omega) (by omega) (by omega) (by omega) (by omega) e3 (by simp [fitsB]; omega)
    have e4 : pageV 0 0 0 = 0 := by decide
    have hR4 := readPage_ok (p := p) (c := c) (m := m) (q := q) (x := 0) (k := 0) (a := 0) (b := 0) hm hq0 (by omega) (by omega) (by omega) (by omega) (by omega) e4 (by simp [fitsB])
    have hP5 : ∀ w, Calls Try.prog 12 #[.agg #[.int .i64 q, .int .i64 1, .int .i64 k]] w fun e w' => e = .returned (.int .u64 (1 + 16 * q + 4096 + 1048576 * k)) ∧ Below w.heap.size w w' := fun w => ke q k hq0 (by omega) hk0 (by omega) ▸ putEntry_any q 1 k w
    have hR5 := readEntry_ok (p := p) (c := c) (m := m) (q := q) (x := 1 + 16 * q + 4096 + 1048576 * k) (k := k) hm hq0 (by omega) (by omega) rfl
    clear e3 e4
    have hs0 : 0 ≤ bit % 36 := Int.emod_nonneg _ (by omega)
    have hs1 : bit % 36 < 36 := Int.emod_lt_of_pos _ (by omega)
    have ht0 : 0 ≤ bit % 52 := Int.emod_nonneg _ (by omega)
    have ht1 : bit % 52 < 52 := Int.emod_lt_of_pos _ (by omega)
    obtain ⟨z6, hz6, hz60, hz61⟩ := or_far (2 + 16 * k + 4096 * d) (bit % 36) 28 (by omega) (by omega) hs0 (by omega) (by omega)
    obtain ⟨z7, hz7, hz70, hz71⟩ := or_far (1 + 16 * q + 4096 + 1048576 * k) (bit % 36) 28 (by omega) (by omega) hs0 (by omega) (by omega)
    obtain ⟨z8, hz8, hz80, hz81⟩ := or_far (2 + 16 * d) (bit % 52) 12 (by omega) (by omega) ht0 (by omega) (by omega)
    have p28 : (2 : Int) ^ (28 : Int).toNat = 268435456 := by decide
    have p12 : (2 : Int) ^ (12 : Int).toNat = 4096 := by decide
    rw [p28] at hz60 hz70
    rw [p12] at hz80
    have hR6 := readPage_bad (p := p) (c := c) (m := m) (q := q) (x := z6) (by omega) hz61
    have hR7 := readEntry_bad (p := p) (c := c) (m := m) (x := z7) hz70 hz71
    have hP8 : ∀ w, Calls Try.prog 11 #[.agg #[.int .i64 2, .int .i64 d]] w fun e w' => e = .returned (.int .u64 (2 + 16 * d)) ∧ Below w.heap.size w w' := fun w => kslot d hd0 (by omega) ▸ putSlot_any 2 d w
    have hR8 := readSlot_bad (x := z8) hz80 hz81
    have hsh : Hid (min (IntKind.u64.wrap (IntKind.u8.wrap (28 + bit.tmod 36))).toNat 64 = (28 + bit % 36).toNat) := Lib.hid (by
      rw [IntWalk.rem_in _ _ hbit.1, IntWalk.u8_in _ (by omega), IntWalk.u64_in _ (by omega)]; omega)
    have hsh2 : Hid ((IntKind.u64.wrap (IntKind.u8.wrap (28 + bit.tmod 36))).toNat = (28 + bit % 36).toNat) := Lib.hid (by
      rw [IntWalk.rem_in _ _ hbit.1, IntWalk.u8_in _ (by omega), IntWalk.u64_in _ (by omega)])
    clear p28 p12 hz60 hz61 hz70 hz71 hz80 hz81
    go_wp2_with fail
    have hbq := below_drewN (Below.refl W1.heap.size W1) nq
    have hb3 := hb2.trans (hbq.mono (by omega))
    have cS3 : ∀ i, (W1.drewN nq).cell? ⟨H, i, .none⟩ = #[Value.int .i64 p, .int .i64 c, .int .i64 m][i]? := fun i => by rw [bcell hbq _ _ (by omega)]; exact cS i
    have hl3 : H + 2 < (W1.drewN nq).heap.size := by have := hbq.size; omega
    generalize W1.drewN nq = W2 at *
    clear cS hb2 hbq hsz1
    have l2 : H < W2.heap.size := by omega
    have hb2 := hb3
    have cS2 := cS3
    clear hb3 cS3 hl3
    go_cut [10, 11] (fun s1 s2 wx => ∃ g, s1 = .pointer (some ⟨g, 0, .none⟩) ∧ s2 = .bool true ∧ g < wx.heap.size ∧ Below W2.heap.size W2 wx ∧ wx.cell? ⟨g, 0, .none⟩ = some (.int .i64 1) ∧ wx.cell? ⟨g, 1, .none⟩ = some (.int .i64 d))
    case first =>
      as_aux_lemma =>
      have q0 := cS2 0
      have q1 := cS2 1
      have q2 := cS2 2
      go_region_held3 (fun w' => w'.cell? ⟨H, 0, .none⟩ = some (.int .i64 p) ∧ w'.cell? ⟨H, 1, .none⟩ = some (.int .i64 c) ∧ w'.cell? ⟨H, 2, .none⟩ = some (.int .i64 m)) (first | go_keep | (refine ⟨?_, ?_, ?_⟩ <;> go_cell)) (first
        | (go_at_call 10; refine (hP1 _).mono ?_; rintro e wa ⟨rfl, hba⟩; have hca := bcell hba; have hfa := bfree hba; have hWa : Below W2.heap.size W2 wa := (Below.trans (by go_grown) (hba.mono (by simp))); (try have hza : W2.heap.size < wa.heap.size := (by have := hba.size; simp at this; omega)); have hHa : H < wa.heap.size := (Nat.lt_of_lt_of_le l2 hWa.size); have hsa := hWa.size; have hSa := (fun i => (bcell hWa H i l2).trans (cS2 i)))
        | (go_at_call 27; refine (hR1 _).mono ?_; rintro e wb ⟨rfl, hbb⟩; have hsb := hbb.size; (try simp at hsb); have hcb := bcell hbb; have hfb := bfree hbb; have hWb : Below W2.heap.size W2 wb := (Below.trans (by go_grown) (hbb.mono (by first | omega | (simp; omega)))); have hsb2 := hWb.size))
      all_goals (go_wp2_with fail; go_meet)
      all_goals refine ⟨_, rfl, rfl, ?_, ?_, ?_, ?_⟩
      all_goals first | (go_grown; done) | go_cell | (simp; omega) | (go_grown; omega)
    case rest =>
    obtain ⟨g1, rfl, rfl, lg1, hbc, g1_0, g1_1⟩ := hcut
    obtain ⟨W3, rfl⟩ : ∃ W : World, W = wc := ⟨_, rfl⟩
    have hsn := hbc.size
    have hb3 := hb2.trans (hbc.mono (by omega))
    have cS3 := fun i => (bcell hbc H i l2).trans (cS2 i)
    have l3 : H < W3.heap.size := by omega
    clear hb2 cS2 l2 hbc hsn
    go_wp2_with fail
    go_cut [12, 13] (fun s1 s2 wx => ∃ g, s1 = .pointer (some ⟨g, 0, .none⟩) ∧ s2 = .bool true ∧ g < wx.heap.size ∧ Below W3.heap.size W3 wx ∧ wx.cell? ⟨g, 0, .none⟩ = some (.int .i64 2) ∧ wx.cell? ⟨g, 1, .none⟩ = some (.int .i64 k) ∧ wx.cell? ⟨g, 2, .none⟩ = some (.int .i64 d))
    case first =>
      as_aux_lemma =>
      have q0 := cS3 0
      have q1 := cS3 1
      have q2 := cS3 2
      go_region_held3 (fun w' => w'.cell? ⟨H, 0, .none⟩ = some (.int .i64 p) ∧ w'.cell? ⟨H, 1, .none⟩ = some (.int .i64 c) ∧ w'.cell? ⟨H, 2, .none⟩ = some (.int .i64 m)) (first | go_keep | (refine ⟨?_, ?_, ?_⟩ <;> go_cell)) (first
        | (go_at_call 10; refine (hP2 _).mono ?_; rintro e wa ⟨rfl, hba⟩; have hca := bcell hba; have hfa := bfree hba; have hWa : Below W3.heap.size W3 wa := (Below.trans (by go_grown) (hba.mono (by simp))); (try have hza : W3.heap.size < wa.heap.size := (by have := hba.size; simp at this; omega)); have hHa : H < wa.heap.size := (Nat.lt_of_lt_of_le l3 hWa.size); have hsa := hWa.size; have hSa := (fun i => (bcell hWa H i l3).trans (cS3 i)))
        | (go_at_call 27; refine (hR2 _).mono ?_; rintro e wb ⟨rfl, hbb⟩; have hsb := hbb.size; (try simp at hsb); have hcb := bcell hbb; have hfb := bfree hbb; have hWb : Below W3.heap.size W3 wb := (Below.trans (by go_grown) (hbb.mono (by first | omega | (simp; omega)))); have hsb2 := hWb.size))
      all_goals (go_wp2_with fail; go_meet)
      all_goals refine ⟨_, rfl, rfl, ?_, ?_, ?_, ?_, ?_⟩
      all_goals first | (go_grown; done) | go_cell | (simp; omega) | (go_grown; omega)
    case rest =>
    obtain ⟨g2, rfl, rfl, lg2, hbc, g2_0, g2_1, g2_2⟩ := hcut
    obtain ⟨W4, rfl⟩ : ∃ W : World, W = wc := ⟨_, rfl⟩
    have hsn := hbc.size
    have hb4 := hb3.trans (hbc.mono (by omega))
    have cS4 := fun i => (bcell hbc H i l3).trans (cS3 i)
    have l4 : H < W4.heap.size := by omega
    replace g1_0 := keepC hbc g1_0 lg1
    replace g1_1 := keepC hbc g1_1 lg1
    replace lg1 := Nat.lt_of_lt_of_le lg1 hsn
    clear hb3 cS3 l3 hbc hsn
    go_wp2_with fail
    go_cut [14, 15] (fun s1 s2 wx => ∃ g, s1 = .pointer (some ⟨g, 0, .none⟩) ∧ s2 = .bool true ∧ g < wx.heap.size ∧ Below W4.heap.size W4 wx ∧ wx.cell? ⟨g, 0, .none⟩ = some (.int .i64 3) ∧ wx.cell? ⟨g, 1, .none⟩ = some (.int .i64 1))
    case first =>
      as_aux_lemma =>
      have q0 := cS4 0
      have q1 := cS4 1
      have q2 := cS4 2
      go_region_held3 (fun w' => w'.cell? ⟨H, 0, .none⟩ = some (.int .i64 p) ∧ w'.cell? ⟨H, 1, .none⟩ = some (.int .i64 c) ∧ w'.cell? ⟨H, 2, .none⟩ = some (.int .i64 m)) (first | go_keep | (refine ⟨?_, ?_, ?_⟩ <;> go_cell)) (first
        | (go_at_call 10; refine (hP3 _).mono ?_; rintro e wa ⟨rfl, hba⟩; have hca := bcell hba; have hfa := bfree hba; have hWa : Below W4.heap.size W4 wa := (Below.trans (by go_grown) (hba.mono (by simp))); (try have hza : W4.heap.size < wa.heap.size := (by have := hba.size; simp at this; omega)); have hHa : H < wa.heap.size := (Nat.lt_of_lt_of_le l4 hWa.size); have hsa := hWa.size; have hSa := (fun i => (bcell hWa H i l4).trans (cS4 i)))
        | (go_at_call 27; refine (hR3 _).mono ?_; rintro e wb ⟨rfl, hbb⟩; have hsb := hbb.size; (try simp at hsb); have hcb := bcell hbb; have hfb := bfree hbb; have hWb : Below W4.heap.size W4 wb := (Below.trans (by go_grown) (hbb.mono (by first | omega | (simp; omega)))); have hsb2 := hWb.size))
      all_goals (go_wp2_with fail; go_meet)
      all_goals refine ⟨_, rfl, rfl, ?_, ?_, ?_, ?_⟩
      all_goals first | (go_grown; done) | go_cell | (simp; omega) | (go_grown; omega)
    case rest =>
    obtain ⟨g3, rfl, rfl, lg3, hbc, g3_0, g3_1⟩ := hcut
    obtain ⟨W5, rfl⟩ : ∃ W : World, W = wc := ⟨_, rfl⟩
    have hsn := hbc.size
    have hb5 := hb4.trans (hbc.mono (by omega))
    have cS5 := fun i => (bcell hbc H i l4).trans (cS4 i)
    have l5 : H < W5.heap.size := by omega
    replace g1_0 := keepC hbc g1_0 lg1
    replace g1_1 := keepC hbc g1_1 lg1
    replace lg1 := Nat.lt_of_lt_of_le lg1 hsn
    replace g2_0 := keepC hbc g2_0 lg2
    replace g2_1 := keepC hbc g2_1 lg2
    replace g2_2 := keepC hbc g2_2 lg2
    replace lg2 := Nat.lt_of_lt_of_le lg2 hsn
    clear hb4 cS4 l4 hbc hsn
    go_upto_region 9 with fail
    go_cut [16, 17] (fun s1 s2 wx => ∃ g, s1 = .pointer (some ⟨g, 0, .none⟩) ∧ s2 = .bool true ∧ g < wx.heap.size ∧ Below W5.heap.size W5 wx ∧ wx.cell? ⟨g, 0, .none⟩ = some (.int .i64 0))
    case first =>
      go_wp2_with (go_at_call 27; refine (hR4 _).mono ?_; rintro e wb ⟨rfl, hbb⟩; have hsb := hbb.size)
      all_goals go_meet
      all_goals refine ⟨_, rfl, rfl, ?_, ?_, ?_⟩
      all_goals first | (go_grown; done) | go_cell | (simp; omega) | (go_grown; omega)
    case rest =>
    obtain ⟨g4, rfl, rfl, lg4, hbc, g4_0⟩ := hcut
    obtain ⟨W6, rfl⟩ : ∃ W : World, W = wc := ⟨_, rfl⟩
    have hsn := hbc.size
    have hb6 := hb5.trans (hbc.mono (by omega))
    have cS6 := fun i => (bcell hbc H i l5).trans (cS5 i)
    have l6 : H < W6.heap.size := by omega
    replace g1_0 := keepC hbc g1_0 lg1
    replace g1_1 := keepC hbc g1_1 lg1
    replace lg1 := Nat.lt_of_lt_of_le lg1 hsn
    replace g2_0 := keepC hbc g2_0 lg2
    replace g2_1 := keepC hbc g2_1 lg2
    replace g2_2 := keepC hbc g2_2 lg2
    replace lg2 := Nat.lt_of_lt_of_le lg2 hsn
    replace g3_0 := keepC hbc g3_0 lg3
    replace g3_1 := keepC hbc g3_1 lg3
    replace lg3 := Nat.lt_of_lt_of_le lg3 hsn
    clear hb5 cS5 l5 hbc hsn
    go_wp2_with fail
    go_cut [18, 19] (fun s1 s2 wx => ∃ g, s1 = .pointer (some ⟨g, 0, .none⟩) ∧ s2 = .bool true ∧ g < wx.heap.size ∧ Below W6.heap.size W6 wx ∧ wx.cell? ⟨g, 0, .none⟩ = some (.int .i64 q) ∧ wx.cell? ⟨g, 1, .none⟩ = some (.int .i64 1) ∧ wx.cell? ⟨g, 2, .none⟩ = some (.int .i64 k))
    case first =>
      as_aux_lemma =>
      have q0 := cS6 0
      have q1 := cS6 1
      have q2 := cS6 2
      go_region_held3 (fun w' => w'.cell? ⟨H, 0, .none⟩ = some (.int .i64 p) ∧ w'.cell? ⟨H, 1, .none⟩ = some (.int .i64 c) ∧ w'.cell? ⟨H, 2, .none⟩ = some (.int .i64 m)) (first | go_keep | (refine ⟨?_, ?_, ?_⟩ <;> go_cell)) (first
        | (go_at_call 12; refine (hP5 _).mono ?_; rintro e wa ⟨rfl, hba⟩; have hca := bcell hba; have hfa := bfree hba; have hWa : Below W6.heap.size W6 wa := (Below.trans (by go_grown) (hba.mono (by simp))); (try have hza : W6.heap.size < wa.heap.size := (by have := hba.size; simp at this; omega)); have hHa : H < wa.heap.size := (Nat.lt_of_lt_of_le l6 hWa.size); have hsa := hWa.size; have hSa := (fun i => (bcell hWa H i l6).trans (cS6 i)))
        | (go_at_call 28; refine (hR5 _).mono ?_; rintro e wb ⟨rfl, hbb⟩; have hsb := hbb.size; (try simp at hsb); have hcb := bcell hbb; have hfb := bfree hbb; have hWb : Below W6.heap.size W6 wb := (Below.trans (by go_grown) (hbb.mono (by first | omega | (simp; omega)))); have hsb2 := hWb.size))
      all_goals (go_wp2_with fail; go_meet)
      all_goals refine ⟨_, rfl, rfl, ?_, ?_, ?_, ?_, ?_⟩
      all_goals first | (go_grown; done) | go_cell | (simp; omega) | (go_grown; omega)
    case rest =>
    obtain ⟨g5, rfl, rfl, lg5, hbc, g5_0, g5_1, g5_2⟩ := hcut
    obtain ⟨W7, rfl⟩ : ∃ W : World, W = wc := ⟨_, rfl⟩
    have hsn := hbc.size
    have hb7 := hb6.trans (hbc.mono (by omega))
    have cS7 := fun i => (bcell hbc H i l6).trans (cS6 i)
    have l7 : H < W7.heap.size := by omega
    replace g1_0 := keepC hbc g1_0 lg1
    replace g1_1 := keepC hbc g1_1 lg1
    replace lg1 := Nat.lt_of_lt_of_le lg1 hsn
    replace g2_0 := keepC hbc g2_0 lg2
    replace g2_1 := keepC hbc g2_1 lg2
    replace g2_2 := keepC hbc g2_2 lg2
    replace lg2 := Nat.lt_of_lt_of_le lg2 hsn
    replace g3_0 := keepC hbc g3_0 lg3
    replace g3_1 := keepC hbc g3_1 lg3
    replace lg3 := Nat.lt_of_lt_of_le lg3 hsn
    replace g4_0 := keepC hbc g4_0 lg4
    replace lg4 := Nat.lt_of_lt_of_le lg4 hsn
    clear hb6 cS6 l6 hbc hsn
    go_upto_region 12 with (go_at_call 10; refine (hP2 _).mono ?_; rintro e wd ⟨rfl, hbd⟩)
    obtain ⟨W8, rfl⟩ : ∃ W : World, W = wd := ⟨_, rfl⟩
    have hsn := hbd.size
    have hb8 := hb7.trans (hbd.mono (by omega))
    have cS8 := fun i => (bcell hbd H i l7).trans (cS7 i)
    have l8 : H < W8.heap.size := by omega
    replace g1_0 := keepC hbd g1_0 lg1
    replace g1_1 := keepC hbd g1_1 lg1
    replace lg1 := Nat.lt_of_lt_of_le lg1 hsn
    replace g2_0 := keepC hbd g2_0 lg2
    replace g2_1 := keepC hbd g2_1 lg2
    replace g2_2 := keepC hbd g2_2 lg2
    replace lg2 := Nat.lt_of_lt_of_le lg2 hsn
    replace g3_0 := keepC hbd g3_0 lg3
    replace g3_1 := keepC hbd g3_1 lg3
    replace lg3 := Nat.lt_of_lt_of_le lg3 hsn
    replace g4_0 := keepC hbd g4_0 lg4
    replace lg4 := Nat.lt_of_lt_of_le lg4 hsn
    replace g5_0 := keepC hbd g5_0 lg5
    replace g5_1 := keepC hbd g5_1 lg5
    replace g5_2 := keepC hbd g5_2 lg5
    replace lg5 := Nat.lt_of_lt_of_le lg5 hsn
    clear hb7 cS7 l7 hbd hsn
    go_cut [21, 22] (fun s1 s2 wx => ∃ g, s1 = .pointer (some ⟨g, 0, .none⟩) ∧ s2 = .bool false ∧ g < wx.heap.size ∧ Below W8.heap.size W8 wx)
    case first =>
      go_wp2_with (go_at_call 27; refine (hR6 _).mono ?_; rintro e wb ⟨rfl, hbb⟩; have hsb := hbb.size)
      all_goals go_meet
      all_goals refine ⟨_, rfl, rfl, ?_, ?_⟩
      all_goals first | (go_grown; done) | go_cell | (simp; omega) | (go_grown; omega)
    case rest =>
    obtain ⟨g6, rfl, rfl, lg6, hbc⟩ := hcut
    obtain ⟨W9, rfl⟩ : ∃ W : World, W = wc := ⟨_, rfl⟩
    have hsn := hbc.size
    have hb9 := hb8.trans (hbc.mono (by omega))
    have cS9 := fun i => (bcell hbc H i l8).trans (cS8 i)
    have l9 : H < W9.heap.size := by omega
    replace g1_0 := keepC hbc g1_0 lg1
    replace g1_1 := keepC hbc g1_1 lg1
    replace lg1 := Nat.lt_of_lt_of_le lg1 hsn
    replace g2_0 := keepC hbc g2_0 lg2
    replace g2_1 := keepC hbc g2_1 lg2
    replace g2_2 := keepC hbc g2_2 lg2
    replace lg2 := Nat.lt_of_lt_of_le lg2 hsn
    replace g3_0 := keepC hbc g3_0 lg3
    replace g3_1 := keepC hbc g3_1 lg3
    replace lg3 := Nat.lt_of_lt_of_le lg3 hsn
    replace g4_0 := keepC hbc g4_0 lg4
    replace lg4 := Nat.lt_of_lt_of_le lg4 hsn
    replace g5_0 := keepC hbc g5_0 lg5
    replace g5_1 := keepC hbc g5_1 lg5
    replace g5_2 := keepC hbc g5_2 lg5
    replace lg5 := Nat.lt_of_lt_of_le lg5 hsn
    clear hb8 cS8 l8 hbc hsn
    go_upto_region 13 with fail
    go_cut [23, 24] (fun s1 s2 wx => ∃ g, s1 = .pointer (some ⟨g, 0, .none⟩) ∧ s2 = .bool false ∧ g < wx.heap.size ∧ Below W9.heap.size W9 wx)
    case first =>
      as_aux_lemma =>
      have q0 := cS9 0
      have q1 := cS9 1
      have q2 := cS9 2
      go_region_held3 (fun w' => w'.cell? ⟨H, 0, .none⟩ = some (.int .i64 p) ∧ w'.cell? ⟨H, 1, .none⟩ = some (.int .i64 c) ∧ w'.cell? ⟨H, 2, .none⟩ = some (.int .i64 m)) (first | go_keep | (refine ⟨?_, ?_, ?_⟩ <;> go_cell)) (first
        | (go_at_call 12; refine (hP5 _).mono ?_; rintro e wa ⟨rfl, hba⟩; have hca := bcell hba; have hfa := bfree hba; have hWa : Below W9.heap.size W9 wa := (Below.trans (by go_grown) (hba.mono (by simp))); (try have hza : W9.heap.size < wa.heap.size := (by have := hba.size; simp at this; omega)); have hHa : H < wa.heap.size := (Nat.lt_of_lt_of_le l9 hWa.size); have hsa := hWa.size; have hSa := (fun i => (bcell hWa H i l9).trans (cS9 i)))
        | (go_at_call 28; (first | rw [hsh.out, hz7] | rw [hsh2.out, hz7]); refine (hR7 _).mono ?_; rintro e wb ⟨rfl, hbb⟩; have hsb := hbb.size; (try simp at hsb); have hcb := bcell hbb; have hfb := bfree hbb; have hWb : Below W9.heap.size W9 wb := (Below.trans (by go_grown) (hbb.mono (by first | omega | (simp; omega)))); have hsb2 := hWb.size))
      all_goals (go_wp2_with fail; go_meet)
      all_goals refine ⟨_, rfl, rfl, ?_, ?_⟩
      all_goals first | (go_grown; done) | go_cell | (simp; omega) | (go_grown; omega)
    case rest =>
    obtain ⟨g7, rfl, rfl, lg7, hbc⟩ := hcut
    obtain ⟨W10, rfl⟩ : ∃ W : World, W = wc := ⟨_, rfl⟩
    have hsn := hbc.size
    have hb10 := hb9.trans (hbc.mono (by omega))
    have cS10 := fun i => (bcell hbc H i l9).trans (cS9 i)
    have l10 : H < W10.heap.size := by omega
    replace g1_0 := keepC hbc g1_0 lg1
    replace g1_1 := keepC hbc g1_1 lg1
    replace lg1 := Nat.lt_of_lt_of_le lg1 hsn
    replace g2_0 := keepC hbc g2_0 lg2
    replace g2_1 := keepC hbc g2_1 lg2
    replace g2_2 := keepC hbc g2_2 lg2
    replace lg2 := Nat.lt_of_lt_of_le lg2 hsn
    replace g3_0 := keepC hbc g3_0 lg3
    replace g3_1 := keepC hbc g3_1 lg3
    replace lg3 := Nat.lt_of_lt_of_le lg3 hsn
    replace g4_0 := keepC hbc g4_0 lg4
    replace lg4 := Nat.lt_of_lt_of_le lg4 hsn
    replace g5_0 := keepC hbc g5_0 lg5
    replace g5_1 := keepC hbc g5_1 lg5
    replace g5_2 := keepC hbc g5_2 lg5
    replace lg5 := Nat.lt_of_lt_of_le lg5 hsn
    replace lg6 := Nat.lt_of_lt_of_le lg6 hsn
    clear hb9 cS9 l9 hbc hsn
    go_wp2_with (first
      | (go_at_call 11; refine (hP8 _).mono ?_; rintro e we ⟨rfl, hbe⟩)
      | (go_at_call 29; refine (hR8 _).mono ?_; rintro e wf ⟨rfl, hbf⟩; have hbx := belowTrans hbe hbf; have fg1_0 := (fun o => (allocOld (o := o) (Nat.lt_of_lt_of_le lg1 hbx.size)).trans (keepC hbx g1_0 lg1)); have fg1_1 := (fun o => (allocOld (o := o) (Nat.lt_of_lt_of_le lg1 hbx.size)).trans (keepC hbx g1_1 lg1)); have fg2_0 := (fun o => (allocOld (o := o) (Nat.lt_of_lt_of_le lg2 hbx.size)).trans (keepC hbx g2_0 lg2)); have fg2_1 := (fun o => (allocOld (o := o) (Nat.lt_of_lt_of_le lg2 hbx.size)).trans (keepC hbx g2_1 lg2)); have fg2_2 := (fun o => (allocOld (o := o) (Nat.lt_of_lt_of_le lg2 hbx.size)).trans (keepC hbx g2_2 lg2)); have fg3_0 := (fun o => (allocOld (o := o) (Nat.lt_of_lt_of_le lg3 hbx.size)).trans (keepC hbx g3_0 lg3)); have fg3_1 := (fun o => (allocOld (o := o) (Nat.lt_of_lt_of_le lg3 hbx.size)).trans (keepC hbx g3_1 lg3)); have fg4_0 := (fun o => (allocOld (o := o) (Nat.lt_of_lt_of_le lg4 hbx.size)).trans (keepC hbx g4_0 lg4)); have fg5_0 := (fun o => (allocOld (o := o) (Nat.lt_of_lt_of_le lg5 hbx.size)).trans (keepC hbx g5_0 lg5)); have fg5_1 := (fun o => (allocOld (o := o) (Nat.lt_of_lt_of_le lg5 hbx.size)).trans (keepC hbx g5_1 lg5)); have fg5_2 := (fun o => (allocOld (o := o) (Nat.lt_of_lt_of_le lg5 hbx.size)).trans (keepC hbx g5_2 lg5))))
    go_ret
    have hbz := hb10.trans (hbx.mono (by omega))
    rw [← hH] at hbz
    exact ⟨rfl, hbz.alloc (by have := hbx.size; omega) _⟩
  · have hm' : mayB p c m = false := by simpa using hm
    clear hm
    go_enter Try.func8, Try.ntmps8
    obtain ⟨bS, bN, hsz, hbW⟩ := two_blocks w (.cells #[.int .i64 p, .int .i64 c, .int .i64 m] 68) (.cells #[.int .u8 n0, .int .u8 n1, .int .u8 n2] 22)
    go_wp2_with (first
      | (go_at_call 9; refine (pa_awake _).mono ?_; rintro e w1 ⟨rfl, hb1⟩; have hc := bcell hb1)
      | (go_at_call 26; refine (refMay_any _ _ _ _).mono ?_; rintro e w1 ⟨rfl, rfl⟩))
    go_ret
    have hb2 := hbW.trans (hb1.mono (by omega))
    exact ⟨rfl, hb2.alloc (by have h := hb1.size; rw [hsz] at h; omega) _⟩
end Go.Proofs.Ytngglkefhinkgaa
