/- Texts bound together: AdD AdE. -/
import Derived.Test.YtcgakbgmdabnkaaGreatBn27

set_option linter.all false
/- The Adopter in memory: ask, begin. -/
namespace Go.Proofs.YtcgakbgmdabnkaaGreat

open Go.RowKit

attribute [local go_sem ↓] Go.wp_at_zero Go.wp_at_succ

def Ad.asked (s : Sh) (t : Ad) (x : Int) : Ad :=
  if statusK x = 2 then { t with was := x, next := 2 }
  else if statusK x ≠ 3 then ({ t with was := x } : Ad).fin 5
  else if statusIx s.p s.c s.m (statusA x) < 0 then ({ t with was := x } : Ad).fin 4
  else { t with was := x, who := statusA x, next := 1 }
set_option maxRecDepth 100000 in
set_option maxHeartbeats 2000000 in
theorem adask_any (q p b : Nat) (s : Sh) (t : Ad) (m : Mem) (w : World) (h0 : At3 q p b w w (adCells s t) 243 m) (hf : Fits s m) (hs : m.st < 1000000000) (hd : 0 ≤ t.d ∧ t.d < s.c) :
    Calls Tryz.prog 270 #[.pointer (some ⟨q, 0, .none⟩), .pointer (some ⟨p, 0, .none⟩)] w fun e w' => e = .returned (.tuple #[]) ∧ At3 q p b w w' (adCells s (t.asked s (m.get (statusIx s.p s.c s.m t.d)))) 243 (m.load t.c (statusIx s.p s.c s.m t.d)) := by
  obtain ⟨hpx, hph⟩ := hf.status hd
  have hcp := fun Y => planStatus_any s.p s.c s.m t.d Y
  rw [hpx] at hcp ⊢
  have hlp := fun Y (hY : WdsAt Y p b m) => wload_any p b m t.c t.d Y hY hph hs
  have hrs := fun Y => rs2 (m.get t.d) Y (Mem.get_fit h0.wds.fit _)
  generalize m.get t.d = x at *
  have hst := fun Y => planStatus_any s.p s.c s.m (statusA x) Y
  have hend := fun e Y (hY : RowAt Y q (adCells s { t with was := x }) 243) => adend_any q s { t with was := x } e Y hY
  clear hpx hph hf hd
  unfold Ad.asked
  obtain ⟨t2, ht2, ht2'⟩ : ∃ t2 : Ad, Hid (t2 = if statusK x = 2 then { t with was := x, next := 2 } else if statusK x ≠ 3 then ({ t with was := x } : Ad).fin 5 else if statusIx s.p s.c s.m (statusA x) < 0 then ({ t with was := x } : Ad).fin 4 else { t with was := x, who := statusA x, next := 1 }) ∧ t2 = _ := ⟨_, Lib.hid rfl, rfl⟩
  rw [← ht2']
  clear ht2'
  generalize statusK x = k at *
  generalize statusA x = A at *
  generalize statusIx s.p s.c s.m A = sx at *
  obtain ⟨sp, sc, sm⟩ := s
  obtain ⟨tc, td, tn, tw, tby, ta, ti, pk, pa, pb, terr, tdone⟩ := t
  dsimp only at hcp hlp hst hend ht2 ⊢
  replace hcp := Lib.hid hcp
  replace hlp := Lib.hid hlp
  replace hrs := Lib.hid hrs
  replace hst := Lib.hid hst
  replace hend := Lib.hid hend
  have hcs : k = 2 ∨ ((k == 2) = false ∧ (k == 3) = false) ∨ (k = 3 ∧ sx < 0) ∨ (k = 3 ∧ ¬ sx < 0) := by
    by_cases h1 : k = 2
    · exact .inl h1
    by_cases h2 : k = 3
    · by_cases h3 : sx < 0
      · exact .inr (.inr (.inl ⟨h2, h3⟩))
      · exact .inr (.inr (.inr ⟨h2, h3⟩))
    · exact .inr (.inl ⟨by simpa using h1, by simpa using h2⟩)
  have hX := h0
  clear h0
  have lw := hX.lt
  go_enter Tryz.func270, Tryz.ntmps270
  go_upto_region 0 with fail
  refine wp_region_loud_last 18 (last := { dst := none, op := Op.store 76 (Operand.tmp 23) (Operand.tmp 21), type := 0, pos := _, after := _, guard := none }) (x := noVar 2) (ld := 15) (v := .int .u64 x) (ts := [7, 11, 20])
    (K0 := fun Y => At3 q p b w Y (adCells ⟨sp, sc, sm⟩ ⟨tc, td, tn, tw, tby, ta, ti, pk, pa, pb, terr, tdone⟩) 243 m) (K1 := fun Y => At3 q p b w Y (adCells ⟨sp, sc, sm⟩ ⟨tc, td, tn, tw, tby, ta, ti, pk, pa, pb, terr, tdone⟩) 243 (m.load tc td))
    (by kernel_rfl) rfl (by kernel_rfl) (by simp only [List.take, noVar, nopMF, nopM1, nopO, nopC, Nat.reduceBEq, Bool.or_false, Bool.or_true, Bool.false_eq_true, ↓reduceIte, Nat.reduceAdd]; exact rfl) (by kernel_rfl) (by kernel_rfl) (by kernel_rfl) (by simp [noVar]) (by simp [noVar]) (by simp [noVar]) (by simp [noVar]) (by kernel_rfl) (by simp [noVar]) (by simp [noVar])
    ⟨⟨fun Y Y' h1 h2 h3 => h1.far h2 h3 hX.only.size⟩, ⟨fun Y Y' h1 h2 h3 => h1.far h2 h3 hX.only.size⟩⟩ hX.drew ?_
  apply Exists.intro
  refine ⟨fun B hb hs => ?_, fun h => (by simp [noVar] at h), fun Q0 => ?_, ?_⟩
  case refine_1 =>
    have hrB : RowAt B q (adCells ⟨sp, sc, sm⟩ ⟨tc, td, tn, tw, tby, ta, ti, pk, pa, pb, terr, tdone⟩) 243 := hb.elim (fun h => h.row) (fun h => h.row)
    have lB := hrB.lt
    have k0 : B.cell? ⟨q, 0, .none⟩ = some (.int .i64 sp) := hrB.cell 0
    have k1 : B.cell? ⟨q, 1, .none⟩ = some (.int .i64 sc) := hrB.cell 1
    have k2 : B.cell? ⟨q, 2, .none⟩ = some (.int .i64 sm) := hrB.cell 2
    have k3 : B.cell? ⟨q, 3, .none⟩ = some (.int .i64 tc) := hrB.cell 3
    have k4 : B.cell? ⟨q, 4, .none⟩ = some (.int .i64 td) := hrB.cell 4
    repeat (go_big_quiet_step ((first | (go_at_call 43; exact ext_of (hcp.out _)) | fail)))
    exact wpQuiet_nil rfl
  case refine_2 => exact loud_step rfl (fun _ _ => by simp [go_sem]) fun Y hY2 hs => (hlp.out Y hY2.wds).mono fun r Y' ⟨h1, h2, h3⟩ => ⟨h1, hY2.load h2 h3, h3.weak fun k hk => hk ▸ Nat.lt_of_lt_of_le hY2.ls.2.1 hX.only.size⟩
  case refine_3 =>
    intro a w4 M hf
    obtain ⟨rfl, hbig, hk1, _⟩ := hf
    have z6 : w4.cell? ⟨q, 6, .none⟩ = some (.int .u64 tw) := hk1.cell 6
    have zf := hk1.free
    have hA := hk1.set 6 (.int .u64 x)
    simp only [noVar, vput, List.take, List.size_toArray, List.length_cons, List.length_nil, Nat.reduceAdd, Nat.reduceLT, decide_false, Bool.false_eq_true, if_false]
    clear hk1 hX hlp hcp
    go_upto_region 1 with fail
    generalize World.setCell _ ⟨q, 6, .none⟩ (.int .u64 x) = Y at *
    clear z6 zf
    have lY := hA.lt
    have c6 : Y.cell? ⟨q, 6, .none⟩ = some (.int .u64 x) := hA.cell 6
    rcases hcs with rfl | ⟨hk2, hk3⟩ | ⟨rfl, hsx⟩ | ⟨rfl, hsx⟩
    · replace ht2 := Lib.hid (ht2.out.trans (if_pos rfl))
      clear hend hst
      go_wp2_with (first
        | (go_at_call 271; (with_reducible refine (hrs.out _).mono ?_); rintro r w1 ⟨rfl, hb1⟩; have hB := hA.below hb1; have k5 : w1.cell? ⟨q, 5, .none⟩ = some (.int .i64 tn) := hB.cell 5; have zf := hB.free)
        | fail)
      go_returns
      exact ⟨rfl, by rw [ht2.out]; exact hB.set 5 _⟩
    · replace ht2 := Lib.hid ((ht2.out.trans (if_neg (by simpa using hk2))).trans (if_pos (by simpa using hk3)))
      clear hst
      go_wp2_with (first
        | (go_at_call 271; (with_reducible refine (hrs.out _).mono ?_); rintro r w1 ⟨rfl, hb1⟩; have hB := hA.below hb1)
        | (go_at_call 153; (with_reducible refine (hend.out _ _ hB.row).mono ?_); rintro r w3 hT; obtain rfl := hT.ret)
        | fail)
      go_returns
      exact ⟨rfl, by rw [ht2.out]; exact hB.turned hT⟩
    · replace ht2 := Lib.hid (((ht2.out.trans (if_neg (by decide))).trans (if_neg (by decide))).trans (if_pos hsx))
      go_wp2_with (first
        | (go_at_call 271; (with_reducible refine (hrs.out _).mono ?_); rintro r w1 ⟨rfl, hb1⟩; have hB := hA.below hb1; have k0 : w1.cell? ⟨q, 0, .none⟩ = some (.int .i64 sp) := hB.cell 0; have k1 : w1.cell? ⟨q, 1, .none⟩ = some (.int .i64 sc) := hB.cell 1; have k2 : w1.cell? ⟨q, 2, .none⟩ = some (.int .i64 sm) := hB.cell 2)
        | (go_at_call 43; (with_reducible refine (hst.out _).mono ?_); rintro r w2 ⟨rfl, hb2⟩; have hC := hB.below hb2)
        | (go_at_call 153; (with_reducible refine (hend.out _ _ hC.row).mono ?_); rintro r w3 hT; obtain rfl := hT.ret)
        | fail)
      go_returns
      exact ⟨rfl, by rw [ht2.out]; exact hC.turned hT⟩
    · replace ht2 := Lib.hid (((ht2.out.trans (if_neg (by decide))).trans (if_neg (by decide))).trans (if_neg hsx))
      clear hend
      have hsx' : 0 ≤ sx := by omega
      go_wp2_with (first
        | (go_at_call 271; (with_reducible refine (hrs.out _).mono ?_); rintro r w1 ⟨rfl, hb1⟩; have hB := hA.below hb1; have k0 : w1.cell? ⟨q, 0, .none⟩ = some (.int .i64 sp) := hB.cell 0; have k1 : w1.cell? ⟨q, 1, .none⟩ = some (.int .i64 sc) := hB.cell 1; have k2 : w1.cell? ⟨q, 2, .none⟩ = some (.int .i64 sm) := hB.cell 2)
        | (go_at_call 43; (with_reducible refine (hst.out _).mono ?_); rintro r w2 ⟨rfl, hb2⟩; have hC := hB.below hb2; have l5 : w2.cell? ⟨q, 5, .none⟩ = some (.int .i64 tn) := hC.cell 5; have l7 : w2.cell? ⟨q, 7, .none⟩ = some (.int .i64 tby) := hC.cell 7; have zf := hC.free)
        | fail)
      go_returns
      exact ⟨rfl, by rw [ht2.out]; exact (hC.set 7 _).set 5 _⟩
end Go.Proofs.YtcgakbgmdabnkaaGreat
/- The Adopter in memory: begin. -/
namespace Go.Proofs.YtcgakbgmdabnkaaGreat

open Go.RowKit

attribute [local go_sem ↓] Go.wp_at_zero Go.wp_at_succ

theorem adStep_0 (s : Sh) (t : Ad) (m : Mem) (h : t.done = false) (h0 : t.next = 0) : adStep s t m = (t.asked s (m.get (statusIx s.p s.c s.m t.d)), m.load t.c (statusIx s.p s.c s.m t.d)) := by
  unfold adStep Ad.asked
  simp [h, h0]
theorem adStep_1 (s : Sh) (t : Ad) (m : Mem) (h : t.done = false) (h0 : t.next = 1) : adStep s t m = (if statusK (m.get (statusIx s.p s.c s.m t.who)) = 1 then ({ t with next := 2 } : Ad).fin 4 else { t with next := 2 }, m.load t.c (statusIx s.p s.c s.m t.who)) := by
  unfold adStep
  simp [h, h0]
theorem adStep_2 (s : Sh) (t : Ad) (m : Mem) (h : t.done = false) (h0 : t.next = 2) : adStep s t m = (if m.get (statusIx s.p s.c s.m t.d) = t.was then { t with next := 3 } else ({ t with next := 3 } : Ad).fin 4, m.swap t.c (statusIx s.p s.c s.m t.d) t.was (statusV 3 t.c)) := by
  unfold adStep
  simp [h, h0]
set_option maxRecDepth 100000 in
set_option maxHeartbeats 2000000 in
theorem adbegin_any (q p b : Nat) (s : Sh) (t : Ad) (m : Mem) (w : World) (h0 : At3 q p b w w (adCells s t) 243 m) (hf : Fits s m) (hs : m.st < 1000000000) (hdn : t.done = false) (hn : 0 ≤ t.next ∧ t.next ≤ 2) (hd : 0 ≤ t.d ∧ t.d < s.c) (hw : t.next = 1 → 0 ≤ t.who ∧ t.who < s.c) :
    Calls Tryz.prog 267 #[.pointer (some ⟨q, 0, .none⟩), .pointer (some ⟨p, 0, .none⟩)] w fun e w' => e = .returned (.tuple #[]) ∧ At3 q p b w w' (adCells s (adStep s t m).1) 243 (adStep s t m).2 := by
  rcases (by omega : t.next = 0 ∨ t.next = 1 ∨ t.next = 2) with hn0 | hn1 | hn2
  · rw [adStep_0 s t m hdn hn0]
    have hask := adask_any q p b s t m w h0 hf hs hd
    obtain ⟨t2, ht2⟩ : ∃ t2, t2 = t.asked s (m.get (statusIx s.p s.c s.m t.d)) := ⟨_, rfl⟩
    obtain ⟨m2, hm2⟩ : ∃ m2, m2 = m.load t.c (statusIx s.p s.c s.m t.d) := ⟨_, rfl⟩
    rw [← ht2, ← hm2] at hask
    dsimp only
    rw [← ht2, ← hm2]
    clear ht2 hm2 hd hw hf hs hn
    obtain ⟨sp, sc, sm⟩ := s
    obtain ⟨tc, td, tn, tw, tby, ta, ti, pk, pa, pb, terr, tdone⟩ := t
    dsimp only at hdn hn0
    subst hdn hn0
    replace hask := Lib.hid hask
    have c5 : w.cell? ⟨q, 5, .none⟩ = some (.int .i64 0) := h0.cell 5
    clear h0
    go_enter Tryz.func267, Tryz.ntmps267
    go_wp2_with (first | (go_at_call 270; (with_reducible refine hask.out.mono ?_); rintro r w1 ⟨rfl, hA⟩) | fail)
    go_returns
    exact ⟨rfl, hA⟩
  · rw [adStep_1 s t m hdn hn1]
    obtain ⟨hpx, hph⟩ := hf.status (hw hn1)
    have hcp := fun Y => planStatus_any s.p s.c s.m t.who Y
    rw [hpx] at hcp ⊢
    have hlp := fun Y (hY : WdsAt Y p b m) => wload_any p b m t.c t.who Y hY hph hs
    have hrs := fun Y => rs2 (m.get t.who) Y (Mem.get_fit h0.wds.fit _)
    generalize m.get t.who = x at *
    have hend := fun Y (hY : RowAt Y q (adCells s { t with next := 2 }) 243) => adend_any q s { t with next := 2 } 4 Y hY
    obtain ⟨t2, ht2, ht2'⟩ : ∃ t2 : Ad, Hid (t2 = if statusK x = 1 then ({ t with next := 2 } : Ad).fin 4 else { t with next := 2 }) ∧ t2 = _ := ⟨_, Lib.hid rfl, rfl⟩
    dsimp only
    rw [← ht2']
    clear ht2' hpx hph hf hd hw hn
    generalize statusK x = k at *
    generalize statusA x = A at *
    obtain ⟨sp, sc, sm⟩ := s
    obtain ⟨tc, td, tn, tw, tby, ta, ti, pk, pa, pb, terr, tdone⟩ := t
    dsimp only at hcp hlp hend ht2 hdn hn1
    subst hdn hn1
    replace hcp := Lib.hid hcp
    replace hlp := Lib.hid hlp
    replace hrs := Lib.hid hrs
    replace hend := Lib.hid hend
    have c5 : w.cell? ⟨q, 5, .none⟩ = some (.int .i64 1) := h0.cell 5
    go_enter Tryz.func267, Tryz.ntmps267
    go_upto_region 7 with fail
    refine wp_region_loud (x := noVar 2) (ld := 14) (v := .int .u64 x) (ts := [48, 52, 61])
      (K0 := fun Y => At3 q p b w Y (adCells ⟨sp, sc, sm⟩ ⟨tc, td, 1, tw, tby, ta, ti, pk, pa, pb, terr, false⟩) 243 m) (K1 := fun Y => At3 q p b w Y (adCells ⟨sp, sc, sm⟩ ⟨tc, td, 1, tw, tby, ta, ti, pk, pa, pb, terr, false⟩) 243 (m.load tc tby))
      (by kernel_rfl) (by simp only [noVar, nopMF, nopM1, nopO, nopC, Nat.reduceBEq, Bool.or_false, Bool.or_true, Bool.false_eq_true, ↓reduceIte, Nat.reduceAdd]; exact rfl) (by kernel_rfl) (by kernel_rfl) (by kernel_rfl) (by simp [noVar]) (by simp [noVar]) (by simp [noVar]) (by simp [noVar]) (by kernel_rfl) (by simp [noVar]) (by simp [noVar])
      ⟨⟨fun Y Y' h1 h2 h3 => h1.far h2 h3 h0.only.size⟩, ⟨fun Y Y' h1 h2 h3 => h1.far h2 h3 h0.only.size⟩⟩ h0.drew ?_
    apply Exists.intro
    refine ⟨fun B hb hs => ?_, fun h => (by simp [noVar] at h), ?_, ?_⟩
    case refine_1 =>
      have hrB : RowAt B q (adCells ⟨sp, sc, sm⟩ ⟨tc, td, 1, tw, tby, ta, ti, pk, pa, pb, terr, false⟩) 243 := hb.elim (fun h => h.row) (fun h => h.row)
      have lB := hrB.lt
      have k0 : B.cell? ⟨q, 0, .none⟩ = some (.int .i64 sp) := hrB.cell 0
      have k1 : B.cell? ⟨q, 1, .none⟩ = some (.int .i64 sc) := hrB.cell 1
      have k2 : B.cell? ⟨q, 2, .none⟩ = some (.int .i64 sm) := hrB.cell 2
      have k3 : B.cell? ⟨q, 3, .none⟩ = some (.int .i64 tc) := hrB.cell 3
      have k7 : B.cell? ⟨q, 7, .none⟩ = some (.int .i64 tby) := hrB.cell 7
      repeat (go_big_quiet_step ((first | (go_at_call 43; exact ext_of (hcp.out _)) | (go_at_call 271; exact ext_of (hrs.out _)) | fail)))
      exact wpQuiet_nil rfl
    case refine_2 => exact loud_step rfl (fun _ _ => by simp [go_sem]) fun Y hY2 hs => (hlp.out Y hY2.wds).mono fun r Y' ⟨h1, h2, h3⟩ => ⟨h1, hY2.load h2 h3, h3.weak fun k hk => hk ▸ Nat.lt_of_lt_of_le hY2.ls.2.1 h0.only.size⟩
    case refine_3 =>
      intro a w4 M hf
      obtain ⟨rfl, hbig, hA, _⟩ := hf
      simp only [noVar, vput, List.size_toArray, List.length_cons, List.length_nil, Nat.reduceAdd, Nat.reduceLT, decide_false, Bool.false_eq_true, if_false]
      have z5 : w4.cell? ⟨q, 5, .none⟩ = some (.int .i64 1) := hA.cell 5
      have zf := hA.free
      have hB := hA.set 5 (.int .i64 2)
      clear h0 hlp hcp hrs
      rcases (by by_cases h : k = 1 <;> simp [h] : k = 1 ∨ (k ≠ 1 ∧ (k == 1) = false)) with rfl | ⟨hk, hk2⟩
      · replace ht2 := Lib.hid (ht2.out.trans (if_pos rfl))
        go_wp2_with (first | (go_at_call 153; (with_reducible refine (hend.out _ hB.row).mono ?_); rintro r w3 hT; obtain rfl := hT.ret) | fail)
        go_returns
        exact ⟨rfl, by rw [ht2.out]; exact hB.turned hT⟩
      · replace ht2 := Lib.hid (ht2.out.trans (if_neg hk))
        clear hend
        go_wp2_with fail
        go_returns
        exact ⟨rfl, by rw [ht2.out]; exact hB⟩
  · rw [adStep_2 s t m hdn hn2]
    obtain ⟨hpx, hph⟩ := hf.status hd
    have hcp := fun Y => planStatus_any s.p s.c s.m t.d Y
    rw [hpx] at hcp ⊢
    have hps := fun Y => status_any 3 t.c Y
    have hsw := fun Y (hY : WdsAt Y p b m) => wswap_any p b m t.c t.d t.was (statusV 3 t.c) Y hY hph (statusV_u64 _ _) hs
    have hend := fun Y (hY : RowAt Y q (adCells s { t with next := 3 }) 243) => adend_any q s { t with next := 3 } 4 Y hY
    obtain ⟨t2, ht2, ht2'⟩ : ∃ t2 : Ad, Hid (t2 = if m.get t.d = t.was then { t with next := 3 } else ({ t with next := 3 } : Ad).fin 4) ∧ t2 = _ := ⟨_, Lib.hid rfl, rfl⟩
    dsimp only
    rw [← ht2']
    obtain ⟨sb, hsb⟩ : ∃ sb, sb = decide (m.get t.d = t.was) := ⟨_, rfl⟩
    rw [← hsb] at hsw
    have hsb' : (sb = true ∧ t2 = { t with next := 3 }) ∨ (sb = false ∧ t2 = ({ t with next := 3 } : Ad).fin 4) := by
      rw [hsb, ht2.out]
      by_cases h : m.get t.d = t.was <;> simp [h]
    clear ht2' hpx hph hf hd hw hn ht2 hsb
    obtain ⟨sp, sc, sm⟩ := s
    obtain ⟨tc, td, tn, tw, tby, ta, ti, pk, pa, pb, terr, tdone⟩ := t
    dsimp only at hcp hps hsw hend hsb' hdn hn2 ⊢
    subst hdn hn2
    replace hcp := Lib.hid hcp
    replace hps := Lib.hid hps
    replace hsw := Lib.hid hsw
    replace hend := Lib.hid hend
    replace hsb' := Lib.hid hsb'
    have c5 : w.cell? ⟨q, 5, .none⟩ = some (.int .i64 2) := h0.cell 5
    have zf := h0.free
    go_enter Tryz.func267, Tryz.ntmps267
    go_upto_region 2 with fail
    have hX := h0.set 5 (.int .i64 3)
    generalize World.setCell _ ⟨q, 5, .none⟩ (.int .i64 3) = W at *
    clear h0 c5 zf
    refine wp_region_loud (x := noVar 2) (ld := 23) (v := .bool sb) (ts := [13, 17, 26, 30, 35])
      (K0 := fun Y => At3 q p b w Y (adCells ⟨sp, sc, sm⟩ ⟨tc, td, 3, tw, tby, ta, ti, pk, pa, pb, terr, false⟩) 243 m) (K1 := fun Y => At3 q p b w Y (adCells ⟨sp, sc, sm⟩ ⟨tc, td, 3, tw, tby, ta, ti, pk, pa, pb, terr, false⟩) 243 (m.swap tc td tw (statusV 3 tc)))
      (by kernel_rfl) (by simp only [noVar, nopMF, nopM1, nopO, nopC, Nat.reduceBEq, Bool.or_false, Bool.or_true, Bool.false_eq_true, ↓reduceIte, Nat.reduceAdd]; exact rfl) (by kernel_rfl) (by kernel_rfl) (by kernel_rfl) (by simp [noVar]) (by simp [noVar]) (by simp [noVar]) (by simp [noVar]) (by kernel_rfl) (by simp [noVar]) (by simp [noVar])
      ⟨⟨fun Y Y' h1 h2 h3 => h1.far h2 h3 hX.only.size⟩, ⟨fun Y Y' h1 h2 h3 => h1.far h2 h3 hX.only.size⟩⟩ hX.drew ?_
    apply Exists.intro
    refine ⟨fun B hb hs => ?_, fun h => (by simp [noVar] at h), ?_, ?_⟩
    case refine_1 =>
      have hrB : RowAt B q (adCells ⟨sp, sc, sm⟩ ⟨tc, td, 3, tw, tby, ta, ti, pk, pa, pb, terr, false⟩) 243 := hb.elim (fun h => h.row) (fun h => h.row)
      have lB := hrB.lt
      have k0 : B.cell? ⟨q, 0, .none⟩ = some (.int .i64 sp) := hrB.cell 0
      have k1 : B.cell? ⟨q, 1, .none⟩ = some (.int .i64 sc) := hrB.cell 1
      have k2 : B.cell? ⟨q, 2, .none⟩ = some (.int .i64 sm) := hrB.cell 2
      have k3 : B.cell? ⟨q, 3, .none⟩ = some (.int .i64 tc) := hrB.cell 3
      have k4 : B.cell? ⟨q, 4, .none⟩ = some (.int .i64 td) := hrB.cell 4
      have k6 : B.cell? ⟨q, 6, .none⟩ = some (.int .u64 tw) := hrB.cell 6
      repeat (go_big_quiet_step ((first | (go_at_call 43; exact ext_of (hcp.out _)) | (go_at_call 272; exact ext_of (hps.out _)) | fail)))
      exact wpQuiet_nil rfl
    case refine_2 => exact loud_step rfl (fun _ _ => by simp [go_sem]) fun Y hY2 hs => (hsw.out Y hY2.wds).mono fun r Y' ⟨h1, h2, h3⟩ => ⟨h1, hY2.access h2 h3, h3.weak fun k hk => hk.elim (fun e => e ▸ Nat.lt_of_lt_of_le hY2.ls.2.1 hX.only.size) (fun e => e ▸ Nat.lt_of_lt_of_le hY2.ls.2.2 hX.only.size)⟩
    case refine_3 =>
      intro a w4 M hf
      obtain ⟨rfl, hbig, hA, _⟩ := hf
      simp only [noVar, vput, List.size_toArray, List.length_cons, List.length_nil, Nat.reduceAdd, Nat.reduceLT, decide_false, Bool.false_eq_true, if_false]
      clear hX hsw hcp hps
      rcases hsb'.out with ⟨rfl, ht2⟩ | ⟨rfl, ht2⟩
      · replace ht2 := Lib.hid ht2
        clear hsb' hend
        go_wp2_with fail
        go_returns
        exact ⟨rfl, by rw [ht2.out]; exact hA⟩
      · replace ht2 := Lib.hid ht2
        clear hsb'
        go_wp2_with (first | (go_at_call 153; (with_reducible refine (hend.out _ hA.row).mono ?_); rintro r w3 hT; obtain rfl := hT.ret) | fail)
        go_returns
        exact ⟨rfl, by rw [ht2.out]; exact hA.turned hT⟩
end Go.Proofs.YtcgakbgmdabnkaaGreat
