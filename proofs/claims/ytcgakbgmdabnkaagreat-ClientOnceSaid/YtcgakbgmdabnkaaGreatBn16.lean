/- The Seeker's step in memory. -/
import Derived.Test.YtcgakbgmdabnkaaGreatBn15

set_option linter.all false
namespace Go.Proofs.YtcgakbgmdabnkaaGreat

open Go.RowKit

attribute [local go_sem ↓] Go.wp_at_zero Go.wp_at_succ

attribute [local go_sem ↓] run_neq_none run_neq_some

theorem run_eqg2_none (W : World) : (eqGuard .neq 250 (.tmp 17) (.const .nilIface) .nilIface .nilIface).run Tryz.prog W = .ok () W := by kernel_rfl
theorem run_eqg2_some (T : TypeId) (v : Value) (W : World) : (eqGuard .neq 250 (.tmp 17) (.const .nilIface) (.iface T v) .nilIface).run Tryz.prog W = .ok () W := by kernel_rfl
attribute [local go_sem ↓] run_eqg2_none run_eqg2_some

def mcStepF : Mc → FuncId
  | .tk _ => 281
  | .sc _ => 284
  | .pc _ => 288
  | .sp _ => 230
  | .bn _ => 290
/-- A machine at hand does an access. -/
theorem mcStep_any (q2 p b : Nat) (s : Sh) (x : Mc) (m : Mem) (w : World) (h : RowAt w q2 (mcCells s x) (mcT x)) (hw : WdsAt w p b m) (hqp : q2 ≠ p) (hqb : q2 ≠ b) (hf : Fits s m) (ho : mcOk s x) (hs : m.st < 1000000000) (F : FuncId)
    (hF : F = mcStepF x) :
    Calls Tryz.prog F #[.pointer (some ⟨q2, 0, .none⟩), .pointer (some ⟨p, 0, .none⟩)] w fun e w' => Stepped q2 p b w w' e (mcCells s (mcStep s x m).1) (mcT (mcStep s x m).1) (mcStep s x m).2 := by
  subst hF
  cases x with
  | tk x => exact tkstep_any q2 p b s x m w h hw hqp hqb hf ho hs
  | sc x => exact scstep_any q2 p b s x m w h hw hqp hqb hf ho hs
  | pc x => exact pcstep_any q2 p b s x m w h hw hqp hqb hf ho hs
  | sp x => exact spstep_any q2 p b s x m w h hw hqp hqb hf ho hs
  | bn x => exact bnstep_any q2 p b s x m w h hw hqp hqb hf ho hs
theorem mcV_step (s : Sh) (x : Mc) (m : Mem) (q : Nat) : mcV (mcStep s x m).1 q = mcV x q := by cases x <;> rfl
/-- An access of a Seeker was done. -/
structure SkStepped (q q2 p b : Nat) (now : Bool) (w w' : World) (e : Ending) (s : Sh) (t : Sk) (m : Mem) : Prop where
  ret : e = .returned (.tuple #[])
  at' : ∃ q3, SkAt w' q q3 s t ∧ (q3 = q2 ∧ (now = false → t.now = none) ∨ w.heap.size ≤ q3)
  wds : WdsAt w' p b m
  only : Only (fun k => k = q ∨ (now = true ∧ k = q2) ∨ k = p ∨ k = b) w w'
set_option maxRecDepth 100000 in
set_option maxHeartbeats 2000000 in
theorem skstep_now (q q2 p b : Nat) (s : Sh) (t : Sk) (x : Mc) (m : Mem) (w : World) (h : SkAt w q q2 s t) (hx : t.now = some x) (hw : WdsAt w p b m) (hqp : q ≠ p ∧ q2 ≠ p) (hqb : q ≠ b ∧ q2 ≠ b) (hf : Fits s m) (ho : skOk s t) (hs : m.st < 1000000000) (hd : t.done = false) :
    Calls Tryz.prog 217 #[.pointer (some ⟨q, 0, .none⟩), .pointer (some ⟨p, 0, .none⟩)] w fun e w' => SkStepped q q2 p b true w w' e s (skStep s t m).1 (skStep s t m).2 := by
  obtain ⟨c1, c2, c3, c4, c5⟩ := ho.cl hd
  obtain ⟨hxo, hxm⟩ := c5 x hx
  obtain ⟨hin, hne⟩ := h.inn x hx
  have hbd := hf.bd
  have c11 : w.cell? ⟨q, 11, .none⟩ = some (.bool false) := by rw [← hd]; exact h.row.cell 11
  have c6 : w.cell? ⟨q, 6, .none⟩ = some (mcV x q2) := by have := h.row.cell 6; rw [hx] at this; exact this
  have hr : skStep s t m = (skSettle s 5 { t with now := some (mcStep s x m).1 }, (mcStep s x m).2) := by unfold skStep; rw [if_neg (by rw [hd]; decide), hx]
  have hok1 : skOk s { t with now := some (mcStep s x m).1 } := ⟨fun _ => ⟨c1, c2, c3, c4, fun z hz => by simp only [Option.some.injEq] at hz; subst hz; exact ⟨mcStep_ok m hxo, mcStep_mine (t := t) m hxm⟩⟩, fun e => by have e : t.found = true := e; rw [not_found ho.fd hd] at e; cases e⟩
  rw [hr]
  dsimp only
  have hms := fun F hF => mcStep_any q2 p b s x m w hin hw hqp.2 hqb.2 hf hxo hs F hF
  have hrow0 := h.row
  have hlq := h.row.lt
  have hset := Lib.hid (fun Y (hY : SkAt Y q q2 s { t with now := some (mcStep s x m).1 }) => sksettle_any q q2 s { t with now := some (mcStep s x m).1 } Y hY (by omega) hok1)
  have hmid : Hid (∀ Y e, Stepped q2 p b w Y e (mcCells s (mcStep s x m).1) (mcT (mcStep s x m).1) (mcStep s x m).2 → SkAt Y q q2 s { t with now := some (mcStep s x m).1 }) := Lib.hid fun Y e hS => by
    refine ⟨?_, fun z hz => ?_⟩
    · have h1 := hrow0.only hS.only (by rintro (e | e | e); exact hne e; exact hqp.1 e; exact hqb.1 e)
      rw [hx] at h1
      have h2 : nowV (some (mcStep s x m).1) q2 = nowV (some x) q2 := mcV_step s x m q2
      show RowAt Y q (skCells s { t with now := some (mcStep s x m).1 } (nowV (some (mcStep s x m).1) q2)) _
      rw [h2]
      exact h1
    · simp only [Option.some.injEq] at hz
      subst hz
      exact ⟨hS.row, hne⟩
  have hfin : Hid (∀ Y e Z e2, Stepped q2 p b w Y e (mcCells s (mcStep s x m).1) (mcT (mcStep s x m).1) (mcStep s x m).2 → SkTurned q q2 Y Z e2 s (skSettle s 5 { t with now := some (mcStep s x m).1 }) → SkStepped q q2 p b true w Z e2 s (skSettle s 5 { t with now := some (mcStep s x m).1 }) (mcStep s x m).2) := Lib.hid fun Y e Z e2 hS hT => by
    obtain ⟨q3, h3, h4⟩ := hT.at'
    refine ⟨hT.ret, ⟨q3, h3, h4.imp (fun e => ⟨e, fun e => by cases e⟩) (fun e => Nat.le_trans hS.only.size e)⟩, hS.wds.only hT.only (fun e => hqp.1 e.symm) (fun e => hqb.1 e.symm), ?_⟩
    refine (hS.only.weak (G := fun k => k = q ∨ (true = true ∧ k = q2) ∨ k = p ∨ k = b) fun k e => ?_).trans hT.only (fun _ _ e => .inl e)
    rcases e with e | e | e
    · exact .inr (.inl ⟨rfl, e⟩)
    · exact .inr (.inr (.inl e))
    · exact .inr (.inr (.inr e))
  clear hr hok1 c1 c2 c3 c4 c5 hrow0 hbd hd hf ho hqp hqb h hw hxm hin
  generalize skSettle s 5 { t with now := some (mcStep s x m).1 } = t2 at *
  generalize ({ t with now := some (mcStep s x m).1 } : Sk) = t1 at *
  cases x with
  | tk x =>
    replace c6 : w.cell? ⟨q, 6, .none⟩ = some (.iface 253 (.pointer (some ⟨q2, 0, .none⟩))) := c6
    replace hms := Lib.hid (hms 281 rfl)
    go_enter Tryz.func217, Tryz.ntmps217
    go_wp2_with (first
      | (go_at_call 281; (with_reducible refine hms.out.mono ?_); rintro r w1 hS; obtain rfl := hS.ret)
      | (go_at_call 162; (with_reducible refine (hset.out _ (hmid.out _ _ hS)).mono ?_); rintro r w2 hT; obtain rfl := hT.ret)
      | fail)
    go_returns
    exact hfin.out _ _ _ _ hS hT
  | sc x =>
    replace c6 : w.cell? ⟨q, 6, .none⟩ = some (.iface 272 (.pointer (some ⟨q2, 0, .none⟩))) := c6
    replace hms := Lib.hid (hms 284 rfl)
    go_enter Tryz.func217, Tryz.ntmps217
    go_wp2_with (first
      | (go_at_call 284; (with_reducible refine hms.out.mono ?_); rintro r w1 hS; obtain rfl := hS.ret)
      | (go_at_call 162; (with_reducible refine (hset.out _ (hmid.out _ _ hS)).mono ?_); rintro r w2 hT; obtain rfl := hT.ret)
      | fail)
    go_returns
    exact hfin.out _ _ _ _ hS hT
  | pc x =>
    replace c6 : w.cell? ⟨q, 6, .none⟩ = some (.iface 274 (.pointer (some ⟨q2, 0, .none⟩))) := c6
    replace hms := Lib.hid (hms 288 rfl)
    go_enter Tryz.func217, Tryz.ntmps217
    go_wp2_with (first
      | (go_at_call 288; (with_reducible refine hms.out.mono ?_); rintro r w1 hS; obtain rfl := hS.ret)
      | (go_at_call 162; (with_reducible refine (hset.out _ (hmid.out _ _ hS)).mono ?_); rintro r w2 hT; obtain rfl := hT.ret)
      | fail)
    go_returns
    exact hfin.out _ _ _ _ hS hT
  | sp x =>
    replace c6 : w.cell? ⟨q, 6, .none⟩ = some (.iface 255 (.pointer (some ⟨q2, 0, .none⟩))) := c6
    replace hms := Lib.hid (hms 230 rfl)
    go_enter Tryz.func217, Tryz.ntmps217
    go_wp2_with (first
      | (go_at_call 230; (with_reducible refine hms.out.mono ?_); rintro r w1 hS; obtain rfl := hS.ret)
      | (go_at_call 162; (with_reducible refine (hset.out _ (hmid.out _ _ hS)).mono ?_); rintro r w2 hT; obtain rfl := hT.ret)
      | fail)
    go_returns
    exact hfin.out _ _ _ _ hS hT
  | bn x =>
    replace c6 : w.cell? ⟨q, 6, .none⟩ = some (.iface 276 (.pointer (some ⟨q2, 0, .none⟩))) := c6
    replace hms := Lib.hid (hms 290 rfl)
    go_enter Tryz.func217, Tryz.ntmps217
    go_wp2_with (first
      | (go_at_call 290; (with_reducible refine hms.out.mono ?_); rintro r w1 hS; obtain rfl := hS.ret)
      | (go_at_call 162; (with_reducible refine (hset.out _ (hmid.out _ _ hS)).mono ?_); rintro r w2 hT; obtain rfl := hT.ret)
      | fail)
    go_returns
    exact hfin.out _ _ _ _ hS hT
set_option maxRecDepth 100000 in
set_option maxHeartbeats 2000000 in
theorem skstep_none (q q2 p b : Nat) (s : Sh) (t : Sk) (m : Mem) (w : World) (h : SkAt w q q2 s t) (hx : t.now = none) (hw : WdsAt w p b m) (hqp : q ≠ p) (hqb : q ≠ b) (hf : Fits s m) (ho : skOk s t) (hs : m.st < 1000000000) (hd : t.done = false) :
    Calls Tryz.prog 217 #[.pointer (some ⟨q, 0, .none⟩), .pointer (some ⟨p, 0, .none⟩)] w fun e w' => SkStepped q q2 p b false w w' e s (skStep s t m).1 (skStep s t m).2 := by
  obtain ⟨c1, c2, c3, c4, c5⟩ := ho.cl hd
  have hbd := hf.bd
  have h0 : At3 q p b w w (skCells s t .nilIface) 252 m := At3.start (by have := h.row; rw [hx] at this; exact this) hw hqp hqb
  have hhr := t.here_in (s := s) (by omega)
  obtain ⟨hpx, hph⟩ := hf.page hhr
  have hcpp := fun Y => planPage_any s.p s.c s.m (t.here s) Y
  rw [hpx] at hcpp
  have hhe := fun Y (hY : RowAt Y q (skCells s t .nilIface) 252) => skhere_any q s t .nilIface Y hY (by omega) (by omega) (by omega)
  have htu := fun Y (hY : RowAt Y q (skCells s t .nilIface) 252) => skturn_any q s t .nilIface Y hY (by omega)
  have hlp := fun Y (hY : WdsAt Y p b m) => wload_any p b m t.c (s.c + t.here s) Y hY hph hs
  have hrp := fun Y => readPage3 s (t.here s) (m.get (s.c + t.here s)) Y (Mem.get_fit hw.fit _)
  have hnw := fun k Y => spnew_any s t.c (t.here s) k Y
  obtain ⟨r, hr⟩ : ∃ r, r = skStep s t m := ⟨_, rfl⟩
  rw [← hr]
  unfold skStep at hr
  rw [if_neg (by rw [hd]; decide), hx] at hr
  dsimp only at hr
  rw [hpx] at hr
  generalize hpa : s.c + t.here s = pa at hlp hcpp hrp hr
  obtain ⟨x, hxx⟩ : ∃ x, x = m.get pa := ⟨_, rfl⟩
  rw [← hxx] at hlp hrp hr
  have hr2 : r = (if readPageB s.p s.c s.m (t.here s) x = true ∧ pgK s (t.here s) x = 2 then { t with now := some (.sp (spNew s t.c (t.here s) (pgP s (t.here s) x 0))) } else t.turn s, m.load t.c pa) := by
    rw [hr]
    unfold pgK pgP
    by_cases hB : readPageB s.p s.c s.m (t.here s) x = true <;> simp [hB]
  clear hr hxx hpa
  generalize readPageB s.p s.c s.m (t.here s) x = B at hrp hr2
  generalize pgK s (t.here s) x = e0 at hrp hr2
  generalize pgP s (t.here s) x 0 = e1 at hrp hr2
  generalize pgP s (t.here s) x 1 = e2 at hrp
  replace hnw := fun Y => hnw e1 Y
  generalize hpgq : t.here s = pg at *
  generalize hnb : spNew s t.c pg e1 = nb at *
  obtain ⟨t2, ht2, ht2'⟩ : ∃ t2 : Sk, Hid (t2 = if B = true ∧ e0 = 2 then { t with now := some (.sp nb) } else t.turn s) ∧ t2 = _ := ⟨_, Lib.hid rfl, rfl⟩
  rw [← ht2'] at hr2
  clear ht2'
  subst hr2
  dsimp only
  have hfin1 : Hid (∀ Y q3, B = true ∧ e0 = 2 → w.heap.size ≤ q3 → RowAt Y q3 (spCells s nb) 283 → At3 q p b w Y (skCells s { t with now := some (.sp nb) } (mcV (.sp nb) q3)) 252 (m.load t.c pa) → SkStepped q q2 p b false w Y (.returned (.tuple #[])) s t2 (m.load t.c pa)) := Lib.hid fun Y q3 hB h3 hrow hA => by
    have e := ht2.out.trans (if_pos hB)
    rw [e]
    refine ⟨rfl, ⟨q3, ⟨hA.row, fun z hz => ?_⟩, .inr h3⟩, hA.wds, hA.only.weak fun k hk => ?_⟩
    · simp only [Option.some.injEq] at hz
      subst hz
      exact ⟨hrow, by have := h0.ls; omega⟩
    · rcases hk with hk | hk | hk
      · exact .inl hk
      · exact .inr (.inr (.inl hk))
      · exact .inr (.inr (.inr hk))
  have hfin2 : Hid (∀ Y, ¬ (B = true ∧ e0 = 2) → At3 q p b w Y (skCells s (t.turn s) .nilIface) 252 (m.load t.c pa) → SkStepped q q2 p b false w Y (.returned (.tuple #[])) s t2 (m.load t.c pa)) := Lib.hid fun Y hB hA => by
    have e := ht2.out.trans (if_neg hB)
    rw [e]
    refine ⟨rfl, ⟨q2, ⟨hA.row, fun z hz => (by cases hz)⟩, .inl ⟨rfl, fun _ => rfl⟩⟩, hA.wds, hA.only.weak fun k hk => ?_⟩
    rcases hk with hk | hk | hk
    · exact .inl hk
    · exact .inr (.inr (.inl hk))
    · exact .inr (.inr (.inr hk))
  clear ht2 hnb hpgq hpx hph hhr c1 c2 c3 c4 c5 hbd ho hf h hw hx
  generalize t.turn s = tT at *
  generalize spCells s nb = ics at *
  obtain ⟨sp, sc, sm⟩ := s
  obtain ⟨tc, tk, tf, tnow, tm, tpage, tslot, tfound, tdone⟩ := t
  dsimp only at hd hlp hrp hhe hcpp htu hnw hfin1 hfin2 ⊢
  subst hd
  replace hlp := Lib.hid hlp
  replace hrp := Lib.hid hrp
  replace hhe := Lib.hid hhe
  replace hcpp := Lib.hid hcpp
  replace htu := Lib.hid htu
  replace hnw := Lib.hid hnw
  have lq := h0.lt
  have c0 : w.cell? ⟨q, 0, .none⟩ = some (.int .i64 sp) := h0.cell 0
  have c1 : w.cell? ⟨q, 1, .none⟩ = some (.int .i64 sc) := h0.cell 1
  have c2 : w.cell? ⟨q, 2, .none⟩ = some (.int .i64 sm) := h0.cell 2
  have c3 : w.cell? ⟨q, 3, .none⟩ = some (.int .i64 tc) := h0.cell 3
  have c4 : w.cell? ⟨q, 4, .none⟩ = some (.int .i64 tk) := h0.cell 4
  have c5 : w.cell? ⟨q, 5, .none⟩ = some (.int .i64 tf) := h0.cell 5
  have c6 : w.cell? ⟨q, 6, .none⟩ = some (.nilIface) := h0.cell 6
  have c7 : w.cell? ⟨q, 7, .none⟩ = some (.int .i64 tm) := h0.cell 7
  have c8 : w.cell? ⟨q, 8, .none⟩ = some (.int .i64 tpage) := h0.cell 8
  have c9 : w.cell? ⟨q, 9, .none⟩ = some (.int .i64 tslot) := h0.cell 9
  have c10 : w.cell? ⟨q, 10, .none⟩ = some (.bool tfound) := h0.cell 10
  have c11 : w.cell? ⟨q, 11, .none⟩ = some (.bool false) := h0.cell 11
  go_enter Tryz.func217, Tryz.ntmps217
  go_upto_region 4 with fail
  clear c6 c7 c8 c9 c10 c11 c4 c5
  go_cut [4, 5] (fun s4 s5 wx => ∃ E, s4 = .pointer (some ⟨E, 0, .none⟩) ∧ s5 = .bool B ∧ w.heap.size ≤ E ∧ RowAt wx E #[.int .i64 e0, .int .i64 e1, .int .i64 e2] 234 ∧ At3 q p b w wx (skCells ⟨sp, sc, sm⟩ ⟨tc, tk, tf, tnow, tm, tpage, tslot, tfound, false⟩ .nilIface) 252 (m.load tc pa))
  case first =>
    refine wp_region_loud (x := ⟨23, 24, 21, 4, 48, 234, #[.int .i64 0, .int .i64 0, .int .i64 0], #[.int .i64 e0, .int .i64 e1, .int .i64 e2]⟩) (ld := 18) (v := .int .u64 x) (ts := [34, 38, 45])
      (K0 := fun Y => At3 q p b w Y (skCells ⟨sp, sc, sm⟩ ⟨tc, tk, tf, tnow, tm, tpage, tslot, tfound, false⟩ .nilIface) 252 m) (K1 := fun Y => At3 q p b w Y (skCells ⟨sp, sc, sm⟩ ⟨tc, tk, tf, tnow, tm, tpage, tslot, tfound, false⟩ .nilIface) 252 (m.load tc pa))
      (by kernel_rfl) (by simp only [nopMF, nopM1, nopO, nopC, Nat.reduceBEq, Bool.or_false, Bool.or_true, Bool.false_eq_true, ↓reduceIte, Nat.reduceAdd]; exact rfl) (by kernel_rfl) (by kernel_rfl) (by kernel_rfl) (by dsimp only; decide) (by dsimp only; simp) (by dsimp only; decide) (by dsimp only; simp) (by kernel_rfl) (by dsimp only; decide) (by simp)
      ⟨⟨fun Y Y' h1 h2 h3 => h1.far h2 h3 h0.only.size⟩, ⟨fun Y Y' h1 h2 h3 => h1.far h2 h3 h0.only.size⟩⟩ h0.drew ?_
    apply Exists.intro
    refine ⟨fun B hb hs => ?_, fun _ => ?_, ?_, ?_⟩
    case refine_1 =>
      have hrB : RowAt B q (skCells ⟨sp, sc, sm⟩ ⟨tc, tk, tf, tnow, tm, tpage, tslot, tfound, false⟩ .nilIface) 252 := hb.elim (fun h => h.row) (fun h => h.row)
      have lB := hrB.lt
      have k0 : B.cell? ⟨q, 0, .none⟩ = some (.int .i64 sp) := hrB.cell 0
      have k1 : B.cell? ⟨q, 1, .none⟩ = some (.int .i64 sc) := hrB.cell 1
      have k2 : B.cell? ⟨q, 2, .none⟩ = some (.int .i64 sm) := hrB.cell 2
      have k3 : B.cell? ⟨q, 3, .none⟩ = some (.int .i64 tc) := hrB.cell 3
      repeat (go_big_quiet_step ((first | (go_at_call 188; exact ext_of (hhe.out _ (hrB.below (Ext.below _)))) | (go_at_call 160; exact ext_of (hcpp.out _)) | (go_at_call 223; exact ext_of (hrp.out _)) | fail)))
      exact wpQuiet_nil rfl
    case refine_2 => exact pg_step rfl rfl rfl rfl rfl rfl rfl rfl (by dsimp only; decide +kernel) (by dsimp only; decide +kernel)
    case refine_3 => exact loud_step rfl (fun _ _ => by simp [go_sem]) fun Y hY2 hs => (hlp.out Y hY2.wds).mono fun r Y' ⟨h1, h2, h3⟩ => ⟨h1, hY2.load h2 h3, h3.weak fun k hk => hk ▸ hY2.ls.2.1⟩
    case refine_4 =>
      intro a w4 M hf
      obtain ⟨rfl, hbig, hk1, hone⟩ := hf
      obtain ⟨hM, hone⟩ := hone (by simp)
      simp only [Act.put, vput, vptr]
      go_wp2
      go_meet
      exact ⟨_, rfl, rfl, hM, hone, hk1⟩
  case rest =>
    obtain ⟨E, rfl, rfl, hE, hEr, hA⟩ := hcut
    have hEq : E ≠ q := fun e => by rw [e] at hE; omega
    have g0 : wc.cell? ⟨E, 0, .none⟩ = some (.int .i64 e0) := hEr.cell 0
    have g1 : wc.cell? ⟨E, 1, .none⟩ = some (.int .i64 e1) := hEr.cell 1
    clear h0 c0 c1 c2 c3 hlp hrp hcpp
    by_cases hB : B = true ∧ e0 = 2
    · replace hfin1 := Lib.hid (fun Y q3 => hfin1.out Y q3 hB)
      obtain ⟨rfl, rfl⟩ := hB
      clear hfin2 htu
      go_upto_region 6 with fail
      have hS := Lib.hid (fun (Y : World) (v : Value) (h : RowAt Y q (skCells ⟨sp, sc, sm⟩ ⟨tc, tk, tf, tnow, tm, tpage, tslot, tfound, false⟩ v) 252) (h2 : RowAt Y E #[.int .i64 2, .int .i64 e1, .int .i64 e2] 234) => (⟨h.cell 0, h.cell 1, h.cell 2, h.cell 3, h2.cell 1⟩ : Y.cell? ⟨q, 0, .none⟩ = some (.int .i64 sp) ∧ Y.cell? ⟨q, 1, .none⟩ = some (.int .i64 sc) ∧ Y.cell? ⟨q, 2, .none⟩ = some (.int .i64 sm) ∧ Y.cell? ⟨q, 3, .none⟩ = some (.int .i64 tc) ∧ Y.cell? ⟨E, 1, .none⟩ = some (.int .i64 e1)))
      go_region_held3 (fun Y => Y.cell? ⟨q, 0, .none⟩ = some (.int .i64 sp) ∧ Y.cell? ⟨q, 1, .none⟩ = some (.int .i64 sc) ∧ Y.cell? ⟨q, 2, .none⟩ = some (.int .i64 sm) ∧ Y.cell? ⟨q, 3, .none⟩ = some (.int .i64 tc) ∧ Y.cell? ⟨E, 1, .none⟩ = some (.int .i64 e1))
        (first | exact hS.out _ _ hA.row.drew hEr.drew | exact hS.out _ _ hB.row hE5 | exact hS.out _ _ hC.row hE6 | exact hS.out _ _ ((hC.set 6 _).row.cast rfl) (hE6.other hEq _ _) | fail)
        (first
          | (go_at_call 188; (with_reducible refine (hhe.out _ hA.row.drew).mono ?_); rintro r w5 ⟨rfl, hb5⟩; have hB := hA.drew.below hb5; have hE5 := hEr.drew.below hb5)
          | (go_at_call 225; (with_reducible refine (hnw.out _).mono ?_); rintro r w6 ⟨q3, rfl, hq3, hrow3, hb6⟩; have hC := hB.below hb6; have hE6 := hE5.below hb6; have z6 := hC.cell 6; have zf := hC.free)
          | fail)
      go_wp2_with fail
      go_returns
      exact hfin1.out _ q3 (Nat.le_trans hB.only.size hq3) (hrow3.other (by have := hB.lt; omega) _ _) (hC.set 6 _)
    · replace hfin2 := Lib.hid (fun Y => hfin2.out Y hB)
      have hne : B = false ∨ (B = true ∧ (e0 == 2) = false) := by
        rcases Bool.eq_false_or_eq_true B with h | h
        · exact .inr ⟨h, by simpa [h] using hB⟩
        · exact .inl h
      clear hB hfin1 hhe hnw
      rcases hne with rfl | ⟨rfl, hne⟩
      all_goals
        go_wp2_with (first | (go_at_call 189; (with_reducible refine (htu.out _ hA.row).mono ?_); rintro r w1 hT; obtain rfl := hT.ret) | fail)
        go_returns
        exact hfin2.out _ (hA.turned hT)
theorem skstep_done (q q2 p b : Nat) (s : Sh) (t : Sk) (m : Mem) (w : World) (h : SkAt w q q2 s t) (hw : WdsAt w p b m) (hd : t.done = true) (now : Bool) (hn : now = false → t.now = none) :
    Calls Tryz.prog 217 #[.pointer (some ⟨q, 0, .none⟩), .pointer (some ⟨p, 0, .none⟩)] w fun e w' => SkStepped q q2 p b now w w' e s (skStep s t m).1 (skStep s t m).2 := by
  have hr : skStep s t m = (t, m) := by unfold skStep; rw [if_pos hd]
  rw [hr]
  have c11 : w.cell? ⟨q, 11, .none⟩ = some (.bool true) := by rw [← hd]; exact h.row.cell 11
  have hfin : SkStepped q q2 p b now w w (.returned (.tuple #[])) s t m := ⟨rfl, ⟨q2, h, .inl ⟨rfl, hn⟩⟩, hw, Only.refl _ _⟩
  replace hfin := Lib.hid hfin
  clear h hw hd hr hn
  go_enter Tryz.func217, Tryz.ntmps217
  go_wp2_with fail
  go_returns
  exact hfin.out
theorem skstep_nil (p : Nat) (w : World) :
    Calls Tryz.prog 217 #[.pointer none, .pointer (some ⟨p, 0, .none⟩)] w fun e w' => e = .returned (.tuple #[]) ∧ w' = w := by
  go_enter Tryz.func217, Tryz.ntmps217
  go_wp2_with fail
  go_returns
  exact ⟨rfl, rfl⟩
end Go.Proofs.YtcgakbgmdabnkaaGreat
