/- Texts bound together: LwE LwF. -/
import Derived.Test.YtcgakbgmdabnkaaGreatBn46

set_option linter.all false
/- The law's awake: a block is asked for. -/
namespace Go.Proofs.YtcgakbgmdabnkaaGreat

open Go.RowKit

attribute [local go_sem ↓] Go.wp_at_zero Go.wp_at_succ

theorem infoU : (Tryz.prog.info? 76).map (fun i => (i.zero, i.size, i.bytes)) = some (some (.int .u64 0), 1, 8) := by kernel_rfl
/-- make([]uint64, n). -/
theorem make_us (n : Nat) (hn : n ≤ 100000) : ∀ u : World, (Instr.makeSlice 24 (.int .i64 (n : Int)) (.int .i64 (n : Int))).run Tryz.prog u = .ok (.slice (some ⟨u.heap.size, 0, .none⟩) n n) (u.alloc (.cells (madeCells #[.int .u64 0] n) 76)) := fun u => by
  obtain ⟨i0, hi, hz0, hz1, hz2⟩ := info_parts infoU
  have h := run_make (P := Tryz.prog) u 24 76 i0 (.int .u64 0) Tryz.underlying24 hi hz0 .i64 .i64 (n : Int) (n : Int) (by omega) (Int.le_refl _) (by rw [hz2]; omega) (by omega)
  rw [Int.toNat_natCast] at h
  simpa [hz1, Value.cells] using h
/-- So many noughts read as a slice. -/
theorem blank_rd (n : Nat) (hn : n ≤ 100000) (u : World) : RdZ .u64 (u.alloc (.cells (madeCells #[.int .u64 0] n) 76)) (.slice (some ⟨u.heap.size, 0, .none⟩) n n) (List.replicate n 0) := by
  have h := RdS.new (sz := 1) (n := n) (heap_alloc_new u (.cells (madeCells #[.int .u64 0] n) 76)) (by rw [size_madeCells]; omega) (by omega)
  unfold RdZ
  rw [List.length_replicate, List.map_replicate]
  rwa [toList_madeCells_one] at h
theorem evOnes (xs : List Ev) : ∀ u ∈ xs.flatMap (fun e => e.cells.toList), u.oneCell' = true := fun u hu => by
  obtain ⟨e, _, h⟩ := List.mem_flatMap.1 hu
  exact evOne e u h
/-- Where the loop of awake stands. -/
def AwAt (H : Nat) (w W : World) (q p b j : Nat) (v : Value) : Prop := ∃ F, CW H F W q p b Aw.s1 (Aw.kk j).1 (Aw.kk j).2 ∧ RowE H F W p b v (Aw.es j) ∧ Below H w W
set_option maxRecDepth 100000 in
set_option maxHeartbeats 4000000 in
theorem awake20 (w : World) : Calls Tryz.prog 8 #[] w fun e w' => e = .returned (.bool true) ∧ Below w.heap.size w w' := by
  obtain ⟨mk, hmk, hbl⟩ : ∃ mk : Array Value, (∀ u : World, (Instr.makeSlice 24 (.int .i64 18) (.int .i64 18)).run Tryz.prog u = .ok (.slice (some ⟨u.heap.size, 0, .none⟩) 18 18) (u.alloc (.cells mk 76))) ∧ Hid (∀ u : World, RdZ .u64 (u.alloc (.cells mk 76)) (.slice (some ⟨u.heap.size, 0, .none⟩) 18 18) (List.replicate 18 0)) := ⟨_, make_us 18 (by omega), Lib.hid (blank_rd 18 (by omega))⟩
  have htt : ∀ w, Calls Tryz.prog 39 #[.agg #[.int .i64 1, .int .i64 1, .int .i64 0]] w fun e w' => e = .returned (.int .i64 18) ∧ Below w.heap.size w w' := lwTotal_any Aw.s1
  have hfl : ∀ v w, RdZ .u64 w v (List.replicate 18 0) → Calls Tryz.prog 10 #[v] w fun e w' => LwFilled (List.replicate 18 0) w w' e := fun v w hr => fill_any _ v w hr (by unfold Mem.fit memOf; intro x hx; rw [List.eq_of_mem_replicate hx]; exact ⟨by decide, by decide⟩) (by decide)
  have hkn := fun w => klnew_any Aw.s1 0 0 w (by decide)
  have hnb : ¬ statusIx Aw.s1.p Aw.s1.c Aw.s1.m 0 < 0 := by decide
  have hnil1 : ∀ (p : Nat) (W : World), (binOp .eql 29 (.pointer (some ⟨p, 0, .none⟩)) (.pointer none)).run Tryz.prog W = .ok (.bool false) W := fun p W => by kernel_rfl
  have hnil2 : ∀ (p : Nat) (W : World), (binOp .eql 31 (.pointer (some ⟨p, 0, .none⟩)) (.pointer none)).run Tryz.prog W = .ok (.bool false) W := fun p W => by kernel_rfl
  have hkn2 : ∀ w e w', KlBorn w w' e Aw.s1 0 0 → ∃ q, e = .returned (.pointer (some ⟨q, 0, .none⟩)) ∧ KlO (fun i => w.heap.size ≤ i ∧ i < w'.heap.size) w' q Aw.s1 (klNew 0 (Fl.shareI 0 1)) ∧ Below w.heap.size w w' := fun w e w' h => by
    obtain ⟨h1, h2⟩ := h
    rw [if_neg hnb] at h2
    obtain ⟨q, e, h3⟩ := h2
    exact ⟨q, e, h3, h1⟩
  clear hnb
  have hkn := fun w => (hkn w).mono (hkn2 w)
  clear hkn2
  dsimp only [Aw.s1, F64] at hkn
  replace htt := Lib.hid htt
  replace hfl := Lib.hid hfl
  replace hkn := Lib.hid hkn
  go_enter Tryz.func8, Tryz.ntmps8
  go_upto_region 2 with fail
  have b0 : Below w.heap.size w (w.alloc (.cells #[.int .i64 1, .int .i64 1, .int .i64 0] 23)) := (Below.refl _ _).alloc (Nat.le_refl _) _
  have t0 : RowAt (w.alloc (.cells #[.int .i64 1, .int .i64 1, .int .i64 0] 23)) w.heap.size #[.int .i64 1, .int .i64 1, .int .i64 0] 23 := heap_alloc_new _ _
  generalize w.alloc (.cells #[.int .i64 1, .int .i64 1, .int .i64 0] 23) = X at *
  obtain ⟨H, hH, hH'⟩ : ∃ H, Hid (H = w.heap.size) ∧ H = w.heap.size := ⟨_, Lib.hid rfl, rfl⟩
  rw [← hH'] at t0 b0 ⊢
  have hHX : H ≤ X.heap.size := by rw [hH']; have := b0.size; omega
  clear hH'
  have lH : H < X.heap.size := t0.lt
  have c0 : X.cell? ⟨H, 0, .none⟩ = some (.int .i64 1) := t0.cell 0
  have c1 : X.cell? ⟨H, 1, .none⟩ = some (.int .i64 1) := t0.cell 1
  have c2 : X.cell? ⟨H, 2, .none⟩ = some (.int .i64 0) := t0.cell 2
  go_upto_region 3 with (first
    | (go_at_call 39; (with_reducible refine (htt.out _).mono ?_); rintro r w1 ⟨rfl, hb1⟩)
    | (go_at_call 10; (with_reducible refine (hfl.out _ _ (hbl.out _)).mono ?_); rintro r w2 ⟨p, b, rfl, hw2, hp2, hb2, hB2⟩)
    | fail)
  have lp2 := hw2.ltp
  have lb2 := hw2.ltb
  have hX2 : Below X.heap.size X w2 := hb1.trans (((Below.refl w1.heap.size w1).alloc (Nat.le_refl _) (.cells mk 76)).trans (hB2.mono (by simp)) |>.mono hb1.size)
  have hp2' : X.heap.size ≤ p := by have := hb1.size; simp at hp2; omega
  have hb2' : X.heap.size ≤ b := by have := hb1.size; simp at hb2; omega
  clear hb1 hB2 hp2 hb2 htt hfl hmk hbl
  have d0 := keepF hX2 _ _ _ c0
  have d1 := keepF hX2 _ _ _ c1
  have d2 := keepF hX2 _ _ _ c2
  have lH2 : H < w2.heap.size := by have := hX2.size; omega
  go_upto_region 4 with (first
    | (go_at_call 11; (with_reducible refine (hkn.out _).mono ?_); rintro r w3 ⟨q, rfl, hk3, hB3⟩)
    | fail)
  have hcw : CW H _ w3 q p b Aw.s1 (klNew 0 (Fl.shareI 0 1)) (memOf (List.replicate 18 0)) := cw_new (s := Aw.s1) (c := 0) (x := 0) hk3 (hw2.below hB3) lp2 lb2 (by omega) (by omega) (by omega) Aw.may ⟨by decide, by decide⟩ ⟨Aw.may, by decide⟩
  have hsh : Fl.shareI 0 1 = 0 := by have := Fl.shareI_bd 0 (n := 1) (by decide); omega
  rw [hsh] at hcw
  have hX3 : Below H w w3 := (b0.trans (hX2.mono hHX)).trans (hB3.mono (by omega))
  have hl3 : H ≤ w3.heap.size := by have := hB3.size; omega
  clear hk3 hB3 hw2 hX2 d0 d1 d2 c0 c1 c2 t0 hsh lp2 lb2 hp2' hb2' b0 lH
  generalize hF : (fun i => w2.heap.size ≤ i ∧ i < w3.heap.size) = F at hcw
  clear hF
  have hask := cw_ask Aw.o1 hcw hl3
  have hask2 : ∀ r w', CwAsk H F w3 w' q p b Aw.s1 (klNew 0 0) (memOf (List.replicate 18 0)) Aw.o1 r → ∃ ao cap F, r = .returned (.tuple #[.slice ao 1 cap, .int .i64 0]) ∧ CW H F w' q p b Aw.s1 (Aw.kk 0).1 (Aw.kk 0).2 ∧ Below H w3 w' := fun r w' h => by
    obtain ⟨⟨v, e, ho⟩, h2, h3, h4⟩ := h
    obtain ⟨ao, cap, e2, _⟩ := (rdE_own ho).nth
    subst e2
    rw [Aw.asked.1, Aw.asked.2] at e
    exact ⟨ao, cap, _, e, h2, h4⟩
  have hask := hask.mono hask2
  dsimp only [Aw.o1] at hask
  replace hask := Lib.hid hask
  clear hask2 hcw
  go_upto_region 8 with (first
    | (go_at_call 12; (with_reducible refine hask.out.mono ?_); rintro r w4 ⟨ao, cap, F4, rfl, hcw4, hB4⟩)
    | fail)
  have hX4 : Below H w w4 := hX3.trans hB4
  have hl4 : H ≤ w4.heap.size := by have := hB4.size; have := hl3; omega
  clear hask hB4 hX3
  obtain ⟨i0, hi0, hz0, hz1, hz2⟩ := info_parts infoEv
  go_wp2
  go_loopw [6, 7] (fun v6 v7 wr => ∃ j : Nat, j ≤ 3 ∧ v7 = .int .i64 j ∧ AwAt H w wr q p b j v6) (fun _ v7 _ => 3 - (intOf v7).toNat)
  case atStart => exact ⟨0, Nat.zero_le _, rfl, F4, hcw4, RowE.nil, hX4⟩
  case round =>
    obtain ⟨j, hj, rfl, Fr, hcr, her, hbr⟩ := hrel
    have hlr : H ≤ wr.heap.size := by have := hcr.lp; have := hcr.wd.ltp; omega
    by_cases hj3 : j < 3
    · have hjl : (j : Int) < 3 := by omega
      have hj0 : (0 : Int) ≤ (j : Int) := by omega
      have wi1 : IntKind.i64.wrap ((j : Int) + 1) = (j : Int) + 1 := IntWalk.i64_in _ ⟨by omega, by omega⟩
      have key : ∀ r w', CwStep H Fr wr w' q p b Aw.s1 (Aw.kk j).1 (Aw.kk j).2 r → ∃ ao n cap e, r = .returned (.tuple #[.slice ao n cap, .int .i64 e]) ∧ RdS w' 8 (.slice ao n cap) ((Aw.kk j).1.step Aw.s1 (Aw.kk j).2).2.2.1.length ((((Aw.kk j).1.step Aw.s1 (Aw.kk j).2).2.2.1).flatMap fun e => e.cells.toList) ∧ (∃ F', CW H F' w' q p b Aw.s1 (Aw.kk (j + 1)).1 (Aw.kk (j + 1)).2 ∧ RowE H F' w' p b u6 (Aw.es j)) ∧ Below H w w' ∧ H ≤ w'.heap.size := fun r w' h => by
        obtain ⟨⟨v, e, ho⟩, h2, h3, h4⟩ := h
        have hrd := RdS.of_own ho
        obtain ⟨ao, cap, e2, _⟩ := hrd
        subst e2
        exact ⟨ao, _, cap, _, e, RdS.of_own ho, ⟨_, h2, her.only h3⟩, hbr.trans h4, by have := h4.size; omega⟩
      have hstep := (cw_step hcr hlr (Aw.stp hj3)).mono key
      clear key
      replace hstep := Lib.hid hstep
      have hfew := Aw.few hj
      have hfew2 := Aw.few hj3
      have hrow : Hid (Aw.es (j + 1) = Aw.es j ++ ((Aw.kk j).1.step Aw.s1 (Aw.kk j).2).2.2.1) := Lib.hid rfl
      rw [hrow.out, List.length_append] at hfew2
      generalize ((Aw.kk j).1.step Aw.s1 (Aw.kk j).2).2.2.1 = xs at *
      clear hcr her
      go_wp2_with (first
        | (go_at_call 15; (with_reducible refine hstep.out.mono ?_); rintro r w5 ⟨ao5, n5, cap5, e5, rfl, hrd5, ⟨F5, hcw5, hro5⟩, hb5, hl5⟩)
        | (refine wpList_append_rd rfl (.tmp 39) (.tmp 40) 34 rfl H 39 i0 _ 8 64 Tryz.underlying34 hi0 hz0 hz1 hz2 rfl (by omega) _ (Aw.es j).length _ rfl hro5.own _ xs.length _ rfl hrd5 (evOnes xs) (by simp only [maxLen]; omega) (by omega) hl5 ?_; intro v6' w6 hown6 hgrow6 hat6)
        | fail)
      have hput := hro5.put hcw5 hgrow6 hown6 hat6
      rw [← hrow.out] at hput
      exact ⟨⟨j + 1, by omega, by go_num, F5, hput.1, hput.2, grown_belowS hb5 hro5.own hl5 hgrow6⟩, by simp [intOf]; omega⟩
    · have hje : j = 3 := by omega
      subst hje
      have hj0 : ¬ (((3 : Nat) : Int) < 3) := by omega
      obtain ⟨ea, eb, hee, ha1, ha2, hb1⟩ : ∃ a b, Aw.es 3 = [a, b] ∧ a.k = 3 ∧ a.n = 64 ∧ b.k = 5 := by
        have h := Aw.told
        rcases he : Aw.es 3 with _ | ⟨a, _ | ⟨b, _ | ⟨c, l⟩⟩⟩
        · rw [he] at h; simp at h
        · rw [he] at h; simp at h
        · rw [he] at h
          simp only [List.map_cons, List.map_nil, List.cons.injEq, Prod.mk.injEq, and_true] at h
          exact ⟨a, b, rfl, h.1.1, h.1.2, h.2.1⟩
        · rw [he] at h; simp at h
      have hrd := her.rd
      rw [hee] at hrd
      obtain ⟨a6, k6, rfl, _, _, hcell⟩ := hrd.nth
      obtain ⟨g, o, rfl, hg, hcell⟩ := hcell (by simp)
      have X0 : wr.cell? ⟨g, o, .none⟩ = some (.int .i64 3) := by have := hcell 0 (by simp) 0 (by omega); simpa [Ev.cells, ha1] using this
      have X4 : wr.cell? ⟨g, o + 6, .none⟩ = some (.int .i64 64) := by have := hcell 0 (by simp) 6 (by omega); simpa [Ev.cells, ha2] using this
      have Y0 : wr.cell? ⟨g, o + 8, .none⟩ = some (.int .i64 5) := by have := hcell 1 (by simp) 0 (by omega); simpa [Ev.cells, hb1] using this
      have hidle := klidle_any hcr.kl
      have hsteps := klsteps_any hcr.kl
      rw [Aw.last.1] at hidle
      rw [Aw.last.2] at hsteps
      replace hidle := Lib.hid hidle
      replace hsteps := Lib.hid hsteps
      clear hcell ha1 ha2 hb1 hee hcr her
      go_wp2_with (first
        | (go_at_call 14; (with_reducible refine hidle.out.mono ?_); rintro r w7 ⟨rfl, hw7⟩; obtain rfl := hw7.symm)
        | (go_at_call 20; (with_reducible refine hsteps.out.mono ?_); rintro r w8 ⟨rfl, hw8⟩; obtain rfl := hw8.symm)
        | fail)
      go_returns
      exact ⟨rfl, by rw [← hH.out]; exact hbr⟩
end Go.Proofs.YtcgakbgmdabnkaaGreat
/- Two clients side by side, each over words of its own. -/
namespace Go.Proofs.YtcgakbgmdabnkaaGreat

open Go.RowKit

/-- Two clients apart, each over words of its own. -/
structure Duo (B : Nat) (F G : Nat → Prop) (W : World) (q p b q' p' b' : Nat) (s : Sh) (k : Kl) (m : Mem) (k' : Kl) (m' : Mem) : Prop where
  ca : CW B F W q p b s k m
  cb : CW B G W q' p' b' s k' m'
  ap : ∀ i, F i ∨ i = p ∨ i = b → ¬ (G i ∨ i = p' ∨ i = b')
section

variable {B : Nat} {F G : Nat → Prop} {W W' : World} {q p b q' p' b' : Nat} {s : Sh} {k k' : Kl} {m m' : Mem}

theorem CW.all (h : CW B F W q p b s k m) : ∀ i, F i ∨ i = p ∨ i = b → i < W.heap.size := fun i hi => by
  rcases hi with hi | rfl | rfl
  · exact h.kl.lt i hi
  · exact h.wd.ltp
  · exact h.wd.ltb
theorem apart_grow {G' : Nat → Prop} (h : ∀ i, F i ∨ i = p ∨ i = b → ¬ G' i) (hl : ∀ i, G' i → i < W.heap.size) : ∀ i, grow F W W' i ∨ i = p ∨ i = b → ¬ G' i := fun i hi hg => by
  rcases hi with (hi | hi) | hi
  · exact h i (.inl hi) hg
  · have := hl i hg; omega
  · exact h i (.inr hi) hg
theorem Duo.swap (h : Duo B F G W q p b q' p' b' s k m k' m') : Duo B G F W q' p' b' q p b s k' m' k m := ⟨h.cb, h.ca, fun i h1 h2 => h.ap i h2 h1⟩
theorem Duo.below (h : Duo B F G W q p b q' p' b' s k m k' m') (hb : Below W.heap.size W W') : Duo B F G W' q p b q' p' b' s k m k' m' := ⟨h.ca.below hb, h.cb.below hb, h.ap⟩
theorem Duo.left {k2 : Kl} {m2 : Mem} (h : Duo B F G W q p b q' p' b' s k m k' m') (hc : CW B (grow F W W') W' q p b s k2 m2) (ho : Only (fun i => F i ∨ i = p ∨ i = b) W W') :
    Duo B (grow F W W') G W' q p b q' p' b' s k2 m2 k' m' :=
  ⟨hc, h.cb.only ho (fun i hi => ⟨fun e => h.ap i hi (.inl e), fun e => h.ap i hi (.inr (.inl e)), fun e => h.ap i hi (.inr (.inr e))⟩), apart_grow h.ap h.cb.all⟩
/-- What the first one's access comes to. -/
def DuoStep (B : Nat) (F G : Nat → Prop) (W w' : World) (q p b q' p' b' : Nat) (s : Sh) (k : Kl) (m : Mem) (k' : Kl) (m' : Mem) (r : Ending) : Prop :=
  ∃ ao n cap F', r = .returned (.tuple #[.slice ao n cap, .int .i64 (k.step s m).2.2.2]) ∧ n = (k.step s m).2.2.1.length ∧ (∀ W2, Only (fun i => G i ∨ i = p' ∨ i = b') w' W2 → RdE W2 (.slice ao n cap) (k.step s m).2.2.1) ∧ Duo B F' G w' q p b q' p' b' s (k.step s m).1 (k.step s m).2.1 k' m' ∧ Below B W w' ∧ B ≤ w'.heap.size ∧ Only (fun i => F i ∨ i = p ∨ i = b) W w'
theorem duo_step (h : Duo B F G W q p b q' p' b' s k m k' m') (hB : B ≤ W.heap.size) (hs : m.st < 1000000000) :
    Calls Tryz.prog 15 #[.pointer (some ⟨q, 0, .none⟩), .pointer (some ⟨p, 0, .none⟩)] W fun r w' => DuoStep B F G W w' q p b q' p' b' s k m k' m' r := by
  refine (cw_step h.ca hB hs).mono fun r w' hS => ?_
  obtain ⟨⟨v, e, ho⟩, h2, h3, h4⟩ := hS
  have hrd := RdS.of_own ho
  obtain ⟨ao, cap, e2, _⟩ := hrd
  subst e2
  have hl := h.left h2 h3
  refine ⟨ao, _, cap, _, e, rfl, fun W2 hW => rdE_own (ownsRow_of_blocks ho fun i hi => hW.block i (ho.lt i hi).2 (hl.ap i (.inl (.inr (ho.lt i hi))))), hl, h4, by have := h4.size; omega, h3⟩
theorem DuoStep.none {w' : World} {r : Ending} (h : DuoStep B F G W w' q p b q' p' b' s k m k' m' r) (hj : k.job = none) : ∃ ao cap F', r = .returned (.tuple #[.slice ao 0 cap, .int .i64 2]) ∧ Duo B F' G w' q p b q' p' b' s k m k' m' ∧ Below B W w' ∧ B ≤ w'.heap.size := by
  obtain ⟨ao, n, cap, F', e, hn, _, h1, h2, h3, _⟩ := h
  have es : k.step s m = (k, m, [], 2) := by unfold Kl.step; rw [hj]
  rw [es] at e hn h1
  subst hn
  exact ⟨ao, cap, F', e, h1, h2, h3⟩
/-- What asking the first one comes to. -/
def DuoAsk (B : Nat) (G : Nat → Prop) (W w' : World) (q p b q' p' b' : Nat) (s : Sh) (k : Kl) (m : Mem) (k' : Kl) (m' : Mem) (o : Op3) (r : Ending) : Prop :=
  ∃ ao n cap F', r = .returned (.tuple #[.slice ao n cap, .int .i64 (k.invoke s o).2.2]) ∧ n = (k.invoke s o).2.1.length ∧ RdE w' (.slice ao n cap) (k.invoke s o).2.1 ∧ Duo B F' G w' q p b q' p' b' s (k.invoke s o).1 m k' m' ∧ Below B W w' ∧ B ≤ w'.heap.size
theorem duo_ask (o : Op3) (h : Duo B F G W q p b q' p' b' s k m k' m') (hB : B ≤ W.heap.size) :
    Calls Tryz.prog 12 #[.pointer (some ⟨q, 0, .none⟩), .agg #[.int .i64 o.k, .int .i64 o.a, .int .i64 o.n]] W fun r w' => DuoAsk B G W w' q p b q' p' b' s k m k' m' o r := by
  refine (cw_ask o h.ca hB).mono fun r w' hS => ?_
  obtain ⟨⟨v, e, ho⟩, h2, h3, h4⟩ := hS
  have hrd := RdS.of_own ho
  obtain ⟨ao, cap, e2, _⟩ := hrd
  subst e2
  exact ⟨ao, _, cap, _, e, rfl, rdE_own ho, h.left h2 ⟨h3.os, h3.tape, h3.output, h3.size, fun i hi hn => h3.block i hi (fun e => hn (.inl e))⟩, h4, by have := h4.size; omega⟩
theorem duo_ask1 (o : Op3) {k1 : Kl} {e1 : Int} (hk : (k.invoke s o).1 = k1) (he : (k.invoke s o).2.2 = e1) (h : Duo B F G W q p b q' p' b' s k m k' m') (hB : B ≤ W.heap.size) :
    Calls Tryz.prog 12 #[.pointer (some ⟨q, 0, .none⟩), .agg #[.int .i64 o.k, .int .i64 o.a, .int .i64 o.n]] W fun r w' =>
      ∃ ao n cap F', r = .returned (.tuple #[.slice ao n cap, .int .i64 e1]) ∧ n = (k.invoke s o).2.1.length ∧ Duo B F' G w' q p b q' p' b' s k1 m k' m' ∧ Below B W w' ∧ B ≤ w'.heap.size := by
  subst hk he
  refine (duo_ask o h hB).mono fun r w' hS => ?_
  obtain ⟨ao, n, cap, F', h1, h2, _, h4, h5, h6⟩ := hS
  exact ⟨ao, n, cap, F', h1, h2, h4, h5, h6⟩
theorem duo_ask2 (o : Op3) {k1 : Kl} {e1 : Int} (hk : (k'.invoke s o).1 = k1) (he : (k'.invoke s o).2.2 = e1) (h : Duo B F G W q p b q' p' b' s k m k' m') (hB : B ≤ W.heap.size) :
    Calls Tryz.prog 12 #[.pointer (some ⟨q', 0, .none⟩), .agg #[.int .i64 o.k, .int .i64 o.a, .int .i64 o.n]] W fun r w' =>
      ∃ ao n cap F', r = .returned (.tuple #[.slice ao n cap, .int .i64 e1]) ∧ Duo B F F' w' q p b q' p' b' s k m k1 m' ∧ Below B W w' ∧ B ≤ w'.heap.size := by
  refine (duo_ask1 o hk he h.swap hB).mono fun r w' hS => ?_
  obtain ⟨ao, n, cap, F', h1, _, h4, h5, h6⟩ := hS
  exact ⟨ao, n, cap, F', h1, h4.swap, h5, h6⟩
theorem duo_step1 {k1 : Kl} {m1 : Mem} {xs : List Ev} (hk : (k.step s m).1 = k1) (hm : (k.step s m).2.1 = m1) (hx : (k.step s m).2.2.1 = xs) (h : Duo B F G W q p b q' p' b' s k m k' m') (hB : B ≤ W.heap.size) (hs : m.st < 1000000000) :
    Calls Tryz.prog 15 #[.pointer (some ⟨q, 0, .none⟩), .pointer (some ⟨p, 0, .none⟩)] W fun r w' =>
      ∃ ao n cap e F', r = .returned (.tuple #[.slice ao n cap, .int .i64 e]) ∧ (∀ W2, Only (fun i => G i ∨ i = p' ∨ i = b') w' W2 → RdE W2 (.slice ao n cap) xs) ∧ Duo B F' G w' q p b q' p' b' s k1 m1 k' m' ∧ Below B W w' ∧ B ≤ w'.heap.size ∧ Only (fun i => F i ∨ i = p ∨ i = b) W w' := by
  subst hk hm hx
  refine (duo_step h hB hs).mono fun r w' hS => ?_
  obtain ⟨ao, n, cap, F', h1, h2, h3, h4, h5, h6, h7⟩ := hS
  exact ⟨ao, n, cap, _, F', h1, h3, h4, h5, h6, h7⟩
theorem duo_step2 {k1 : Kl} {m1 : Mem} {xs : List Ev} (hk : (k'.step s m').1 = k1) (hm : (k'.step s m').2.1 = m1) (hx : (k'.step s m').2.2.1 = xs) (h : Duo B F G W q p b q' p' b' s k m k' m') (hB : B ≤ W.heap.size) (hs : m'.st < 1000000000) :
    Calls Tryz.prog 15 #[.pointer (some ⟨q', 0, .none⟩), .pointer (some ⟨p', 0, .none⟩)] W fun r w' =>
      ∃ ao n cap e F', r = .returned (.tuple #[.slice ao n cap, .int .i64 e]) ∧ RdE w' (.slice ao n cap) xs ∧ Duo B F F' w' q p b q' p' b' s k m k1 m1 ∧ Below B W w' ∧ B ≤ w'.heap.size ∧ Only (fun i => G i ∨ i = p' ∨ i = b') W w' := by
  refine (duo_step1 hk hm hx h.swap hB hs).mono fun r w' hS => ?_
  obtain ⟨ao, n, cap, e, F', h1, h3, h4, h5, h6, h7⟩ := hS
  exact ⟨ao, n, cap, e, F', h1, h3 _ (Only.refl _ _), h4.swap, h5, h6, h7⟩
theorem klStep_n {j : Jb} (hj : k.job = some j) : (k.step s m).1.steps = k.steps + 1 := by unfold Kl.step; rw [hj]; rfl
theorem klAsk_busy {j : Jb} {o : Op3} (hj : k.job = some j) : k.invoke s o = (k, [], 4) := by
  unfold Kl.invoke Kl.rests
  rw [hj]
  rfl
theorem klAsk_new (c f : Int) (o : Op3) : ((klNew c f).invoke s o).1.steps = 0 := by
  unfold Kl.invoke Kl.rests klNew
  dsimp only
  split
  · rfl
  · split
    · rfl
    · split <;> rfl
end

end Go.Proofs.YtcgakbgmdabnkaaGreat
