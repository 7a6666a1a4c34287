import Derived.Test.YtngglkefhinkgaaPackW
namespace Go.Proofs.Ytngglkefhinkgaa
open Go.RowKit
set_option maxHeartbeats 400000 in
theorem pa_awake (w : World) :
    Calls Try.prog 9 #[] w fun e w' => e = .returned (.bool true) ∧ Below w.heap.size w w' := by
  have e1 : pageV 2 2 1 = 4130 := by decide
  have e2 : slotV 1 3 = 49 := by decide
  have e3 : putV 1 [1, 2, 0] = 8209 := by decide
  go_enter Try.func9, Try.ntmps9
  go_wp2_with (first
    | (go_at_call 10; refine (putPage_any _ _ _ _).mono ?_; rintro e w1 ⟨rfl, hb1⟩)
    | (go_at_call 11; refine (putSlot_any _ _ _).mono ?_; rintro e w2 ⟨rfl, hb2⟩)
    | (go_at_call 12; refine (putEntry_any _ _ _ _).mono ?_; rintro e w3 ⟨rfl, hb3⟩))
  all_goals go_ret
  all_goals refine ⟨rfl, ?_⟩
  exact (hb1.trans (hb2.mono (by have := hb1.size; omega))).trans (hb3.mono (by have := hb1.size; have := hb2.size; omega))

theorem eqPage (w : World) (a b c a' b' c' : Int) : (binOp .eql 25 (.agg #[.int .i64 a, .int .i64 b, .int .i64 c]) (.agg #[.int .i64 a', .int .i64 b', .int .i64 c'])).run Try.prog w = .ok (.bool (a == a' && b == b' && c == c')) w := by
  have hu := Try.underlying25
  by_cases h1 : a = a' <;> by_cases h2 : b = b' <;> by_cases h3 : c = c' <;> simp [go_sem, h1, h2, h3]
theorem eqEntry (w : World) (a b c a' b' c' : Int) : (binOp .eql 29 (.agg #[.int .i64 a, .int .i64 b, .int .i64 c]) (.agg #[.int .i64 a', .int .i64 b', .int .i64 c'])).run Try.prog w = .ok (.bool (a == a' && b == b' && c == c')) w := by
  have hu := Try.underlying29
  by_cases h1 : a = a' <;> by_cases h2 : b = b' <;> by_cases h3 : c = c' <;> simp [go_sem, h1, h2, h3]
theorem eqSlot (w : World) (a b a' b' : Int) : (binOp .eql 27 (.agg #[.int .i64 a, .int .i64 b]) (.agg #[.int .i64 a', .int .i64 b'])).run Try.prog w = .ok (.bool (a == a' && b == b')) w := by
  have hu := Try.underlying27
  by_cases h1 : a = a' <;> by_cases h2 : b = b' <;> simp [go_sem, h1, h2]
theorem keepC {w w' : World} {a : Addr} {v : Value} (hb : Below w.heap.size w w') (h : w.cell? a = some v) (hl : a.block < w.heap.size) : w'.cell? a = some v := by
  rw [hb.cell hl]; exact h
set_option maxRecDepth 100000 in
set_option maxHeartbeats 1000000 in
theorem packApart_any (a0 a1 a2 b0 b1 b2 : Int) (w : World) (ha0 : 0 ≤ a0) (ha0' : a0 ≤ 255) (ha1 : 0 ≤ a1) (ha1' : a1 ≤ 255) (ha2 : 0 ≤ a2) (ha2' : a2 ≤ 255)
   (hb0 : 0 ≤ b0) (hb0' : b0 ≤ 255) (hb1 : 0 ≤ b1) (hb1' : b1 ≤ 255) (hb2 : 0 ≤ b2) (hb2' : b2 ≤ 255) :
    Calls Try.prog 3 #[.agg #[.int .u8 a0, .int .u8 a1, .int .u8 a2], .agg #[.int .u8 b0, .int .u8 b1, .int .u8 b2]] w fun e w' => e = .returned (.bool true) ∧ Below w.heap.size w w' := by
  go_enter Try.func3, Try.ntmps3
  go_wp2_with (go_at_call 9; refine (pa_awake _).mono ?_; rintro e w1 ⟨rfl, hw1⟩)
  have hsz : w.heap.size + 2 ≤ w1.heap.size := by have := hw1.size; simp at this; omega
  have hs0 : w.heap.size < w1.heap.size := by omega
  have hs1 : w.heap.size + 1 < w1.heap.size := by omega
  have c0 : w1.cell? ⟨w.heap.size, 0, .none⟩ = some (.int .u8 a0) := by rw [hw1.cell (by simp; omega)]; simp [go_sem]
  have c1 : w1.cell? ⟨w.heap.size, 1, .none⟩ = some (.int .u8 a1) := by rw [hw1.cell (by simp; omega)]; simp [go_sem]
  have c2 : w1.cell? ⟨w.heap.size, 2, .none⟩ = some (.int .u8 a2) := by rw [hw1.cell (by simp; omega)]; simp [go_sem]
  have d0 : w1.cell? ⟨w.heap.size + 1, 0, .none⟩ = some (.int .u8 b0) := by rw [hw1.cell (by simp)]; simp [go_sem]
  have d1 : w1.cell? ⟨w.heap.size + 1, 1, .none⟩ = some (.int .u8 b1) := by rw [hw1.cell (by simp)]; simp [go_sem]
  have d2 : w1.cell? ⟨w.heap.size + 1, 2, .none⟩ = some (.int .u8 b2) := by rw [hw1.cell (by simp)]; simp [go_sem]
  have hW : Below w.heap.size w w1 := (((Below.refl _ _).alloc (Nat.le_refl _) _).alloc (by simp) _).trans (hw1.mono (by simp; omega))
  clear hw1
  have wa0 : IntKind.i64.wrap a0 = a0 := IntWalk.i64_in _ ⟨by omega, by omega⟩
  have wa1 : IntKind.i64.wrap a1 = a1 := IntWalk.i64_in _ ⟨by omega, by omega⟩
  have wa2 : IntKind.i64.wrap a2 = a2 := IntWalk.i64_in _ ⟨by omega, by omega⟩
  have wb0 : IntKind.i64.wrap b0 = b0 := IntWalk.i64_in _ ⟨by omega, by omega⟩
  have wb1 : IntKind.i64.wrap b1 = b1 := IntWalk.i64_in _ ⟨by omega, by omega⟩
  have wb2 : IntKind.i64.wrap b2 = b2 := IntWalk.i64_in _ ⟨by omega, by omega⟩
  have ma0 : IntKind.i64.wrap (1 + a0.tmod 3) = 1 + a0 % 3 := by rw [Int.tmod_eq_emod_of_nonneg ha0]; exact IntWalk.i64_in _ ⟨by omega, by omega⟩
  have mb0 : IntKind.i64.wrap (1 + b0.tmod 3) = 1 + b0 % 3 := by rw [Int.tmod_eq_emod_of_nonneg hb0]; exact IntWalk.i64_in _ ⟨by omega, by omega⟩
  generalize hB : w.heap.size = B at *
  go_cut [5, 6] (fun s5 s6 wx => ∃ g h : Nat, s5 = .pointer (some ⟨g, 0, .none⟩) ∧ s6 = .pointer (some ⟨h, 0, .none⟩) ∧ g < wx.heap.size ∧ h < wx.heap.size ∧ Below w1.heap.size w1 wx
     ∧ wx.cell? ⟨g, 0, .none⟩ = some (.int .i64 2) ∧ wx.cell? ⟨g, 1, .none⟩ = some (.int .i64 a0) ∧ wx.cell? ⟨g, 2, .none⟩ = some (.int .i64 a1)
     ∧ wx.cell? ⟨h, 0, .none⟩ = some (.int .i64 2) ∧ wx.cell? ⟨h, 1, .none⟩ = some (.int .i64 b0) ∧ wx.cell? ⟨h, 2, .none⟩ = some (.int .i64 b1))
  case first =>
    go_region_held3 (fun w' => w'.cell? ⟨B, 0, .none⟩ = some (.int .u8 a0) ∧ w'.cell? ⟨B, 1, .none⟩ = some (.int .u8 a1) ∧ w'.cell? ⟨B, 2, .none⟩ = some (.int .u8 a2) ∧ w'.cell? ⟨B+1, 0, .none⟩ = some (.int .u8 b0) ∧ w'.cell? ⟨B+1, 1, .none⟩ = some (.int .u8 b1) ∧ w'.cell? ⟨B+1, 2, .none⟩ = some (.int .u8 b2)) (go_keep) (first | fail)
    all_goals (go_wp2_with fail; go_meet)
    all_goals refine ⟨_, _, rfl, rfl, ?_, ?_, by go_grown, ?_, ?_, ?_, ?_, ?_, ?_⟩
    all_goals first | go_cell | go_size
  case rest =>
  obtain ⟨g1, h1, rfl, rfl, hg1, hh1, hb1, g10, g11, g12, h10, h11, h12⟩ := hcut
  have e0 := keepC hb1 c0 (by simpa using hs0)
  have e1 := keepC hb1 c1 (by simpa using hs0)
  have e2 := keepC hb1 c2 (by simpa using hs0)
  have f0 := keepC hb1 d0 (by simpa using hs1)
  have f1 := keepC hb1 d1 (by simpa using hs1)
  have f2 := keepC hb1 d2 (by simpa using hs1)
  have hW1 := hW.trans (hb1.mono (by omega))
  have ht0 : B < wc.heap.size := by have := hb1.size; omega
  have ht1 : B + 1 < wc.heap.size := by have := hb1.size; omega
  clear c0 c1 c2 d0 d1 d2 hb1 hsz hs0 hs1 hW
  go_wp2_with fail
  obtain ⟨W1, rfl⟩ : ∃ W : World, W = wc := ⟨_, rfl⟩
  go_cut [7, 8] (fun s5 s6 wx => ∃ g h : Nat, s5 = .pointer (some ⟨g, 0, .none⟩) ∧ s6 = .pointer (some ⟨h, 0, .none⟩) ∧ g < wx.heap.size ∧ h < wx.heap.size ∧ Below W1.heap.size W1 wx
     ∧ wx.cell? ⟨g, 0, .none⟩ = some (.int .i64 (1 + a0 % 3)) ∧ wx.cell? ⟨g, 1, .none⟩ = some (.int .i64 a1)
     ∧ wx.cell? ⟨h, 0, .none⟩ = some (.int .i64 (1 + b0 % 3)) ∧ wx.cell? ⟨h, 1, .none⟩ = some (.int .i64 b1))
  case first =>
    go_region_held3 (fun w' => w'.cell? ⟨B, 0, .none⟩ = some (.int .u8 a0) ∧ w'.cell? ⟨B, 1, .none⟩ = some (.int .u8 a1) ∧ w'.cell? ⟨B, 2, .none⟩ = some (.int .u8 a2) ∧ w'.cell? ⟨B+1, 0, .none⟩ = some (.int .u8 b0) ∧ w'.cell? ⟨B+1, 1, .none⟩ = some (.int .u8 b1) ∧ w'.cell? ⟨B+1, 2, .none⟩ = some (.int .u8 b2)) (go_keep) (first | fail)
    all_goals (go_wp2_with fail; go_meet)
    all_goals refine ⟨_, _, rfl, rfl, ?_, ?_, by go_grown, ?_, ?_, ?_, ?_⟩
    all_goals first | go_cell | go_size
  case rest =>
  obtain ⟨g2, h2, rfl, rfl, hg2, hh2, hb2, g20, g21, h20, h21⟩ := hcut
  have c0 := keepC hb2 e0 (by simpa using ht0)
  have c1 := keepC hb2 e1 (by simpa using ht0)
  have c2 := keepC hb2 e2 (by simpa using ht0)
  have d0 := keepC hb2 f0 (by simpa using ht1)
  have d1 := keepC hb2 f1 (by simpa using ht1)
  have d2 := keepC hb2 f2 (by simpa using ht1)
  go_wp2_with fail

  have k10 := keepC hb2 g10 (by simpa using hg1)
  have k11 := keepC hb2 g11 (by simpa using hg1)
  have k12 := keepC hb2 g12 (by simpa using hg1)
  have l10 := keepC hb2 h10 (by simpa using hh1)
  have l11 := keepC hb2 h11 (by simpa using hh1)
  have l12 := keepC hb2 h12 (by simpa using hh1)
  have hW2 := hW1.trans (hb2.mono (by omega))
  have hs0 : B < wc.heap.size := by have := hb2.size; omega
  have hs1 : B + 1 < wc.heap.size := by have := hb2.size; omega
  have hg1 : g1 < wc.heap.size := by have := hb2.size; omega
  have hh1 : h1 < wc.heap.size := by have := hb2.size; omega
  clear e0 e1 e2 f0 f1 f2 g10 g11 g12 h10 h11 h12 hb2 ht0 ht1 hW1
  obtain ⟨W2, rfl⟩ : ∃ W : World, W = wc := ⟨_, rfl⟩
  go_cut [9, 10] (fun s5 s6 wx => ∃ g h : Nat, s5 = .pointer (some ⟨g, 0, .none⟩) ∧ s6 = .pointer (some ⟨h, 0, .none⟩) ∧ g < wx.heap.size ∧ h < wx.heap.size ∧ Below W2.heap.size W2 wx
     ∧ wx.cell? ⟨g, 0, .none⟩ = some (.int .i64 a0) ∧ wx.cell? ⟨g, 1, .none⟩ = some (.int .i64 a1) ∧ wx.cell? ⟨g, 2, .none⟩ = some (.int .i64 a2)
     ∧ wx.cell? ⟨h, 0, .none⟩ = some (.int .i64 b0) ∧ wx.cell? ⟨h, 1, .none⟩ = some (.int .i64 b1) ∧ wx.cell? ⟨h, 2, .none⟩ = some (.int .i64 b2))
  case first =>
    go_region_held3 (fun w' => w'.cell? ⟨B, 0, .none⟩ = some (.int .u8 a0) ∧ w'.cell? ⟨B, 1, .none⟩ = some (.int .u8 a1) ∧ w'.cell? ⟨B, 2, .none⟩ = some (.int .u8 a2) ∧ w'.cell? ⟨B+1, 0, .none⟩ = some (.int .u8 b0) ∧ w'.cell? ⟨B+1, 1, .none⟩ = some (.int .u8 b1) ∧ w'.cell? ⟨B+1, 2, .none⟩ = some (.int .u8 b2)) (go_keep) (first | fail)
    all_goals (go_wp2_with fail; go_meet)
    all_goals refine ⟨_, _, rfl, rfl, ?_, ?_, by go_grown, ?_, ?_, ?_, ?_, ?_, ?_⟩
    all_goals first | go_cell | go_size
  case rest =>
  obtain ⟨g3, h3, rfl, rfl, hg3, hh3, hb3, g30, g31, g32, h30, h31, h32⟩ := hcut
  go_wp2_with fail
  have kk := keepF hb3
  have c0 := kk _ _ _ c0
  have d0 := kk _ _ _ d0
  have k10 := kk _ _ _ k10
  have k11 := kk _ _ _ k11
  have k12 := kk _ _ _ k12
  have l10 := kk _ _ _ l10
  have l11 := kk _ _ _ l11
  have l12 := kk _ _ _ l12
  have g20 := kk _ _ _ g20
  have g21 := kk _ _ _ g21
  have h20 := kk _ _ _ h20
  have h21 := kk _ _ _ h21
  have hW3 := hW2.trans (hb3.mono (by omega))
  clear kk hb3
  have q1 := fun w : World => eqPage w 2 a0 a1 2 b0 b1
  have q2 := fun w : World => eqSlot w (1 + a0 % 3) a1 (1 + b0 % 3) b1
  have q3 := fun w : World => eqEntry w a0 a1 a2 b0 b1 b2
  have x1 : pageV 2 a0 a1 = 2 + 16 * a0 + 4096 * a1 := by rw [pageV, if_neg (by simp [pageBad]), putV2 _ _ _ (by omega) (by omega) (by omega) (by omega)]
  have y1 : pageV 2 b0 b1 = 2 + 16 * b0 + 4096 * b1 := by rw [pageV, if_neg (by simp [pageBad]), putV2 _ _ _ (by omega) (by omega) (by omega) (by omega)]
  have x2 : slotV (1 + a0 % 3) a1 = 1 + a0 % 3 + 16 * a1 := by rw [slotV, if_neg (by simp [slotBad]; omega), putV1 _ _ (by omega) (by omega)]
  have y2 : slotV (1 + b0 % 3) b1 = 1 + b0 % 3 + 16 * b1 := by rw [slotV, if_neg (by simp [slotBad]; omega), putV1 _ _ (by omega) (by omega)]
  have x3 := putV3 1 a0 a1 a2 ha0 ha0' ha1 ha1' ha2 ha2'
  have y3 := putV3 1 b0 b1 b2 hb0 hb0' hb1 hb1' hb2 hb2'
  have x4 : statusV 3 a0 = 3 + 16 * a0 := by rw [statusV, if_neg (by simp [statusBad]), putV1 _ _ (by omega) (by omega)]
  have y4 : statusV 3 b0 = 3 + 16 * b0 := by rw [statusV, if_neg (by simp [statusBad]), putV1 _ _ (by omega) (by omega)]
  have p1 : ((pageV 2 a0 a1 == pageV 2 b0 b1) == (a0 == b0 && a1 == b1)) = true := bool_eq_of (by simp [x1, y1]; omega)
  have p2 : ((slotV (1 + a0 % 3) a1 == slotV (1 + b0 % 3) b1) == ((1 + a0 % 3) == (1 + b0 % 3) && a1 == b1)) = true := bool_eq_of (by rw [x2, y2]; simp only [beq_iff_eq, Bool.and_eq_true]; omega)
  have p3 : ((putV 1 [a0, a1, a2] == putV 1 [b0, b1, b2]) == (a0 == b0 && a1 == b1 && a2 == b2)) = true := bool_eq_of (by simp [x3, y3]; omega)
  have p4 : ((statusV 3 a0 == statusV 3 b0) == (a0 == b0)) = true := bool_eq_of (by simp [x4, y4]; omega)
  have p5 : (putV 1 [a0, a1, a2] != 0) = true := by simp [x3]; omega
  have p6 : (pageV 2 a0 a1 != 0) = true := by simp [x1]; omega
  have p7 : (slotV (1 + a0 % 3) a1 != 0) = true := by rw [x2]; simp; omega
  clear x1 y1 x2 y2 x3 y3 x4 y4

  have z0 := cell_lt c0
  have z1 := cell_lt d0
  have z2 := cell_lt k10
  have z3 := cell_lt l10
  have z4 := cell_lt g20
  have z5 := cell_lt h20
  clear wa1 wa2 wb1 wb2 ma0 mb0 hs0 hs1 hg1 hh1 hg2 hh2 c1 c2 d1 d2 hW2 ha0 ha0' ha1 ha1' ha2 ha2' hb0 hb0' hb1 hb1' hb2 hb2'
  refine wp_region_ext (by kernel_rfl) (by kernel_rfl) ?_
  repeat (go_big_quiet_step ((first
     | (go_at_call 10; exact ext_of (putPage_any _ _ _ _))
     | (go_at_call 11; exact ext_of (putSlot_any _ _ _))
     | (go_at_call 12; exact ext_of (putEntry_any _ _ _ _))
     | (go_at_call 13; exact ext_of (status_any _ _ _)))))
  refine wpQuiet_nil ?_
  rintro _ ⟨e, rfl⟩
  go_wp2_with fail
  go_ret
  exact ⟨rfl, by rw [hB]; exact belowStep hB hW3 e.below⟩
end Go.Proofs.Ytngglkefhinkgaa
