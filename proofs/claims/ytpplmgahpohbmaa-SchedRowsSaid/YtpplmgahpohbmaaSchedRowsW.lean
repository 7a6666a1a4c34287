/- The law SchedRows: the walk. -/
import Derived.Test.YtpplmgahpohbmaaSchedCutsW
namespace Go.Proofs.Ytpplmgahpohbmaa
open Go.RowKit Fl
attribute [local go_sem ↓] Go.wp_at_zero Go.wp_at_succ

theorem backQ (zs : List Ch) (u : Value) (W : World) (h : RdC W u zs) (hl : zs.length ≤ 100000) :
    Calls Try.prog 16 #[u] W fun e w' => ∃ v', e = .returned v' ∧ Below W.heap.size W w' ∧ RdC w' v' zs :=
  (back_any zs u W h hl).mono fun _ _ ⟨v', he, hb, ho⟩ => ⟨v', he, hb, ho.rd⟩
theorem sameQ (zs : List Ch) (u v : Value) (W : World) (hu : RdC W u zs) (hv : RdC W v zs) (f : ∀ c ∈ zs, c.fit) :
    Calls Try.prog 15 #[u, v] W fun e w' => e = .returned (.bool true) ∧ Below W.heap.size W w' := by
  have := refSame_row zs zs u v W hu hv f f
  rwa [sameL_refl] at this
theorem turnsR_length (zs : List Int) (k : Int) : (turnsR zs k).length ≤ 2000 := by
  unfold turnsR
  by_cases h : zs = [] ∨ 2000 / (zs.length : Int) < k
  · rw [if_pos h]; exact Nat.zero_le _
  · rw [if_neg h, turnsL_length]
    have h0 : zs ≠ [] := fun e => h (.inl e)
    have hl0 : zs.length ≠ 0 := fun h' => h0 (List.eq_nil_of_length_eq_zero h')
    rcases Int.lt_or_le k 0 with hk | hk
    · have : k.toNat = 0 := by omega
      rw [this]; omega
    · have h2 : k ≤ 2000 / (zs.length : Int) := by have := fun h' => h (.inr h'); omega
      have h3 := (Int.le_ediv_iff_mul_le (by omega)).1 h2
      have h4 : (k.toNat : Int) = k := by omega
      have : ((k.toNat * zs.length : Nat) : Int) ≤ 2000 := by rw [Int.natCast_mul, h4]; exact h3
      omega
theorem turnsR_fit (zs : List Int) (k : Int) : ∀ c ∈ turnsR zs k, c.fit := by
  unfold turnsR
  by_cases h : zs = [] ∨ 2000 / (zs.length : Int) < k
  · rw [if_pos h]; intro c hc; cases hc
  · rw [if_neg h]; exact turns_fit _ _

set_option maxRecDepth 100000 in
set_option maxHeartbeats 2000000 in
theorem schedRows_any (xs ys : List Ch) (v u vL vB : Value) (t c k : Int) (zs : List Int) (l : List Bool) (w : World) (hx : RdC w v xs) (hy : RdC w u ys) (fx : ∀ x ∈ xs, x.fit) (fy : ∀ x ∈ ys, x.fit)
    (hz : RdZ .i64 w vL zs) (hl : RdBo w vB l) (ht0 : -9223372036854775808 ≤ t) (ht1 : t ≤ 9223372036854775807) (hk0 : -9223372036854775808 ≤ k) (hk1 : k ≤ 9223372036854775807) :
    Calls Try.prog 6 #[v, u, .agg #[.int .i64 t, .int .i64 c, .int .i64 k, vL, vB]] w fun e w' => e = .returned (.bool true) ∧ Below w.heap.size w w' := by
  obtain ⟨ax, cx, e, hcx, hmx, _⟩ := id hx
  subst e
  obtain ⟨ay, cy, e, hcy, hmy, _⟩ := id hy
  subst e
  obtain ⟨az, cz, e, hcz, hmz, _⟩ := id hz
  subst e
  obtain ⟨al, cl, e, hcl, hml, _⟩ := id hl
  subst e
  obtain ⟨n, hn, hn'⟩ := nm xs.length
  obtain ⟨m, hm, hm'⟩ := nm ys.length
  obtain ⟨p, hp, hp'⟩ := nm zs.length
  obtain ⟨q, hq, hq'⟩ := nm l.length
  rw [← hn'] at hcx hx ⊢
  rw [← hm'] at hcy hy ⊢
  rw [← hp'] at hcz hz ⊢
  rw [← hq'] at hcl hl ⊢
  clear hn' hm' hp' hq'
  have hbox : ∀ w1, Below (w.alloc (.cells #[.int .i64 t, .int .i64 c, .int .i64 k, .slice az p cz, .slice al q cl] 48)).heap.size (w.alloc (.cells #[.int .i64 t, .int .i64 c, .int .i64 k, .slice az p cz, .slice al q cl] 48)) w1 →
      Below w.heap.size w w1 ∧ w1.cell? ⟨w.heap.size, 0, .none⟩ = some (.int .i64 t) ∧ w1.cell? ⟨w.heap.size, 1, .none⟩ = some (.int .i64 c) ∧ w1.cell? ⟨w.heap.size, 2, .none⟩ = some (.int .i64 k) ∧ w1.cell? ⟨w.heap.size, 3, .none⟩ = some (.slice az p cz) ∧ w1.cell? ⟨w.heap.size, 4, .none⟩ = some (.slice al q cl) ∧ w.heap.size < w1.heap.size := fun w1 h => by
    have hh : w1.heap[w.heap.size]? = some (.cells #[.int .i64 t, .int .i64 c, .int .i64 k, .slice az p cz, .slice al q cl] 48 (0, 0)) := (h.block _ (by simp)).trans (heap_alloc_new w _)
    exact ⟨((Below.refl _ _).alloc (Nat.le_refl _) _).trans (h.mono (by simp)), rowCells hh 0, rowCells hh 1, rowCells hh 2, rowCells hh 3, rowCells hh 4, (Array.getElem?_eq_some_iff.1 hh).1⟩
  replace hbox := Lib.hid hbox
  by_cases hlong : n ≤ 100 ∧ m ≤ 100 ∧ q ≤ 300 ∧ p ≤ 20
  · obtain ⟨hn1, hm1, hq1, hp1⟩ := hlong
    go_enter Try.func6, Try.ntmps6
    go_wp2_with fail
    refine (awake_any _).mono ?_
    rintro e w1 ⟨rfl, hb1⟩
    obtain ⟨hb01, x0, x1, x2, x3, x4, hs01⟩ := hbox.out _ hb1
    go_wp2_with fail
    refine (choices_any xs _ _ (hx.below hb01) (by rw [← hn.out]; omega)).mono ?_
    rintro e w2 ⟨v2, rfl, hb2, ho2⟩
    have hb02 : Below w.heap.size w w2 := hb01.trans (hb2.mono hb01.size)
    have r2 := ho2.rd
    obtain ⟨a2, c2, e2, hc2, hcm2, _⟩ := id r2
    rw [← hn.out] at e2 hc2
    subst e2
    clear ho2
    go_wp2_with fail
    refine (choices_any ys _ _ (hy.below hb02) (by rw [← hm.out]; omega)).mono ?_
    rintro e w3 ⟨v3, rfl, hb3, ho3⟩
    have hb03 : Below w.heap.size w w3 := hb02.trans (hb3.mono hb02.size)
    have r3 := ho3.rd
    obtain ⟨a3, c3, e3, hc3, hcm3, _⟩ := id r3
    rw [← hm.out] at e3 hc3
    subst e3
    clear ho3
    have hb13 : Below w1.heap.size w1 w3 := hb2.trans (hb3.mono hb2.size)
    have x43 := keepF hb13 _ _ _ x4
    have r23 := r2.below hb3
    go_wp2_with fail
    refine (weave_any xs ys l _ _ _ _ r23 r3 (RdBo.below hl hb03) (by rw [← hn.out, ← hm.out]; omega)).mono ?_
    rintro e w4 ⟨v4, rfl, hb4, ho4⟩
    have hb04 : Below w.heap.size w w4 := hb03.trans (hb4.mono hb03.size)
    have hb14 : Below w1.heap.size w1 w4 := hb13.trans (hb4.mono hb13.size)
    have r4 := ho4.rd
    have r24 := r23.below hb4
    have r34 := r3.below hb4
    have rx4 := hx.below hb04
    have ry4 := hy.below hb04
    have rl4 : RdB w4 (.slice al q cl) l := RdBo.below hl hb04
    have rz4 : RdI w4 (.slice az p cz) zs := RdZ.i (hz.below hb04)
    have fw : ∀ x ∈ weaveL xs ys l, x.fit := fun x hx' => (weave_mem _ _ _ hx').elim (fx x) (fy x)
    have lw : (weaveL xs ys l).length ≤ 100000 := by rw [weaveL_length, ← hn.out, ← hm.out]; omega
    have c0 := keepF hb14 _ _ _ x0
    have c1 := keepF hb14 _ _ _ x1
    have c2' := keepF hb14 _ _ _ x2
    have c3' := keepF hb14 _ _ _ x3
    have c4' := keepF hb14 _ _ _ x4
    obtain ⟨L, hL⟩ : ∃ L, L = weaveL xs ys l := ⟨_, rfl⟩
    obtain ⟨B, hB⟩ : ∃ B, B = sameL xs ys := ⟨_, rfl⟩
    rw [← hL] at r4 fw lw
    have A1 : ∀ W, Below w4.heap.size w4 W → Calls Try.prog 16 #[v4] W fun e w' => ∃ v', e = .returned v' ∧ Below W.heap.size W w' ∧ RdC w' v' L := fun W h => backQ L _ W (r4.below h) lw
    have A2 : ∀ W, Below w4.heap.size w4 W → Calls Try.prog 17 #[.slice ax n cx, .slice ay m cy, .slice al q cl] W fun e w' => ∃ v', e = .returned v' ∧ Below W.heap.size W w' ∧ RdC w' v' L := fun W h =>
      (refWeave_any xs ys l _ _ _ W (rx4.below h) (ry4.below h) (RdS.below rl4 h) (by rw [← hn.out, ← hm.out]; omega)).mono fun _ _ ⟨v', he, hb, ho⟩ => ⟨v', he, hb, by rw [hL]; exact ho.rd⟩
    have A3 : ∀ W u v, RdC W u L → RdC W v L → Calls Try.prog 15 #[u, v] W fun e w' => e = .returned (.bool true) ∧ Below W.heap.size W w' := fun W u v h1 h2 => sameQ L u v W h1 h2 fw
    have A4 : ∀ W, Below w4.heap.size w4 W → Calls Try.prog 16 #[.slice a2 n c2] W fun e w' => ∃ v', e = .returned v' ∧ Below W.heap.size W w' ∧ RdC w' v' xs := fun W h => backQ xs _ W (r24.below h) (by rw [← hn.out]; omega)
    have A5 : ∀ W u, RdC W u xs → Below w4.heap.size w4 W → Calls Try.prog 15 #[u, .slice ax n cx] W fun e w' => e = .returned (.bool true) ∧ Below W.heap.size W w' := fun W u h1 h2 => sameQ xs u _ W h1 (rx4.below h2) fx
    have A6 : ∀ W, Below w4.heap.size w4 W → Calls Try.prog 11 #[.slice a2 n c2, .slice a3 m c3] W fun e w' => e = .returned (.bool B) ∧ Below W.heap.size W w' := fun W h => hB ▸ same_row xs ys _ _ W (r24.below h) (r34.below h) fx fy
    have A7 : ∀ W, Below w4.heap.size w4 W → Calls Try.prog 15 #[.slice ax n cx, .slice ay m cy] W fun e w' => e = .returned (.bool B) ∧ Below W.heap.size W w' := fun W h => hB ▸ refSame_row xs ys _ _ W (rx4.below h) (ry4.below h) fx fy
    have A8 : ∀ W, Below w4.heap.size w4 W → Calls Try.prog 13 #[.slice a2 n c2, .int .i64 t, .int .i64 c] W fun e w' => ∃ v', e = .returned v' ∧ Below W.heap.size W w' ∧ RdC w' v' (cutL xs t c) := fun W h =>
      (cut_any xs _ t c W (r24.below h) (by rw [← hn.out]; omega) ht0 ht1).mono fun _ _ ⟨v', he, hb, ho⟩ => ⟨v', he, hb, ho.rd⟩
    have A9 : ∀ W, Below w4.heap.size w4 W → Calls Try.prog 18 #[.slice ax n cx, .int .i64 t, .int .i64 c] W fun e w' => ∃ v', e = .returned v' ∧ Below W.heap.size W w' ∧ RdC w' v' (cutL xs t c) := fun W h =>
      (refCut_any xs _ t c W (rx4.below h) (by rw [← hn.out]; omega) ht0 ht1).mono fun _ _ ⟨v', he, hb, ho⟩ => ⟨v', he, hb, ho.rd⟩
    have A10 : ∀ W, Calls Try.prog 10 #[.int .i64 c, .int .i64 k] W fun e w' => ∃ v', e = .returned v' ∧ Below W.heap.size W w' ∧ RdC w' v' (turnsR [c] k) := fun W =>
      (alone_any c k W hk0 hk1).mono fun _ _ ⟨v', he, hb, ho⟩ => ⟨v', he, hb, ho.rd⟩
    have A11 : ∀ W, Calls Try.prog 19 #[.int .i64 c, .int .i64 k] W fun e w' => ∃ v', e = .returned v' ∧ Below W.heap.size W w' ∧ RdC w' v' (turnsR [c] k) := fun W =>
      (refAlone_any c k W).mono fun _ _ ⟨v', he, hb, ho⟩ => ⟨v', he, hb, ho.rd⟩
    have A12 : ∀ W, Below w4.heap.size w4 W → Calls Try.prog 8 #[.slice az p cz, .int .i64 k] W fun e w' => ∃ v', e = .returned v' ∧ Below W.heap.size W w' ∧ RdC w' v' (turnsR zs k) := fun W h =>
      (turns_any zs _ k W (RdZ.i (RdZ.below (hz.below hb04) h)) hk0 hk1).mono fun _ _ ⟨v', he, hb, ho⟩ => ⟨v', he, hb, ho.rd⟩
    have A13 : ∀ W, Below w4.heap.size w4 W → Calls Try.prog 20 #[.slice az p cz, .int .i64 k] W fun e w' => ∃ v', e = .returned v' ∧ Below W.heap.size W w' ∧ RdC w' v' (turnsR zs k) := fun W h =>
      (refTurns_any zs _ k W (RdZ.i (RdZ.below (hz.below hb04) h)) hk0 hk1).mono fun _ _ ⟨v', he, hb, ho⟩ => ⟨v', he, hb, ho.rd⟩
    have lc : (cutL xs t c).length ≤ 100000 := by rw [cutL_length, ← hn.out]; omega
    have fc : ∀ x ∈ cutL xs t c, x.fit := cutL_mem fx
    have lt1 : (turnsR [c] k).length ≤ 100000 := Nat.le_trans (turnsR_length _ _) (by omega)
    have lt2 : (turnsR zs k).length ≤ 100000 := Nat.le_trans (turnsR_length _ _) (by omega)
    replace hL := Lib.hid hL
    replace hB := Lib.hid hB
    replace A1 := Lib.hid A1
    replace A2 := Lib.hid A2
    replace A3 := Lib.hid A3
    replace A4 := Lib.hid A4
    replace A5 := Lib.hid A5
    replace A6 := Lib.hid A6
    replace A7 := Lib.hid A7
    replace A8 := Lib.hid A8
    replace A9 := Lib.hid A9
    replace A10 := Lib.hid A10
    replace A11 := Lib.hid A11
    replace A12 := Lib.hid A12
    replace A13 := Lib.hid A13
    have hs4 := hb04.size
    clear ho4 rl4 rz4
    go_wp2_with fail
    go_region_held3 (fun w' => w'.cell? ⟨w.heap.size, 4, .none⟩ = some (.slice al q cl))
      (first | go_keep | exact keepF h1 _ _ _ c4' | exact keepF h2 _ _ _ c4' | exact keepF h3 _ _ _ c4' | exact keepF h4 _ _ _ c4' | exact keepF h5 _ _ _ c4' | exact keepF h6 _ _ _ c4' | exact keepF h7 _ _ _ c4')
      (first
        | (go_at_call 16; (with_reducible refine (A1.out _ (Below.refl _ _).drew).mono ?_); rintro e w5 ⟨u1, rfl, h1, r5⟩; have h1 : Below w4.heap.size w4 w5 := (Below.refl _ _).drew.trans h1)
        | (go_at_call 17; (with_reducible refine (A2.out _ h1).mono ?_); rintro e w6 ⟨u2, rfl, h2, r6⟩; have r56 := r5.below h2; have h2 : Below w4.heap.size w4 w6 := h1.trans (h2.mono h1.size))
        | (go_at_call 15; (with_reducible refine (A3.out _ _ _ r56 r6).mono ?_); rintro e w7 ⟨rfl, h3⟩; have h3 : Below w4.heap.size w4 w7 := h2.trans (h3.mono h2.size))
        | (go_at_call 16; (with_reducible refine (A4.out _ h3).mono ?_); rintro e w8 ⟨u4, rfl, h4, r8⟩; have h4 : Below w4.heap.size w4 w8 := h3.trans (h4.mono h3.size))
        | (go_at_call 15; (with_reducible refine (A5.out _ _ r8 h4).mono ?_); rintro e w9 ⟨rfl, h5⟩; have h5 : Below w4.heap.size w4 w9 := h4.trans (h5.mono h4.size))
        | (go_at_call 11; (with_reducible refine (A6.out _ h5).mono ?_); rintro e w10 ⟨rfl, h6⟩; have h6 : Below w4.heap.size w4 w10 := h5.trans (h6.mono h5.size))
        | (go_at_call 15; (with_reducible refine (A7.out _ h6).mono ?_); rintro e w11 ⟨rfl, h7⟩; have h7 : Below w4.heap.size w4 w11 := h6.trans (h7.mono h6.size)))
    go_wp2_with fail
    go_region_held3 (fun w' => w'.cell? ⟨w.heap.size, 0, .none⟩ = some (.int .i64 t) ∧ w'.cell? ⟨w.heap.size, 1, .none⟩ = some (.int .i64 c) ∧ w'.cell? ⟨w.heap.size, 2, .none⟩ = some (.int .i64 k))
      (first | exact ⟨keepF h7 _ _ _ c0, keepF h7 _ _ _ c1, keepF h7 _ _ _ c2'⟩ | exact ⟨keepF h7.drew _ _ _ c0, keepF h7.drew _ _ _ c1, keepF h7.drew _ _ _ c2'⟩ | (first | go_keep | exact ⟨keepF g1 _ _ _ c0, keepF g1 _ _ _ c1, keepF g1 _ _ _ c2'⟩ | exact ⟨keepF g2 _ _ _ c0, keepF g2 _ _ _ c1, keepF g2 _ _ _ c2'⟩ | exact ⟨keepF g3 _ _ _ c0, keepF g3 _ _ _ c1, keepF g3 _ _ _ c2'⟩ | exact ⟨keepF g4 _ _ _ c0, keepF g4 _ _ _ c1, keepF g4 _ _ _ c2'⟩ | exact ⟨keepF g5 _ _ _ c0, keepF g5 _ _ _ c1, keepF g5 _ _ _ c2'⟩ | exact ⟨keepF g6 _ _ _ c0, keepF g6 _ _ _ c1, keepF g6 _ _ _ c2'⟩ | exact ⟨keepF g7 _ _ _ c0, keepF g7 _ _ _ c1, keepF g7 _ _ _ c2'⟩ | exact ⟨keepF g8 _ _ _ c0, keepF g8 _ _ _ c1, keepF g8 _ _ _ c2'⟩))
      (first
        | (go_at_call 13; (with_reducible refine (A8.out _ h7.drew).mono ?_); rintro e w12 ⟨u1', rfl, g1, s1⟩; have g1 : Below w4.heap.size w4 w12 := h7.drew.trans (g1.mono h7.size))
        | (go_at_call 16; (with_reducible refine (backQ _ _ _ s1 lc).mono ?_); rintro e w13 ⟨u2', rfl, g2, s2⟩; have g2 : Below w4.heap.size w4 w13 := g1.trans (g2.mono g1.size))
        | (go_at_call 18; (with_reducible refine (A9.out _ g2).mono ?_); rintro e w14 ⟨u3', rfl, g3, s3⟩; have s23 := s2.below g3; have g3 : Below w4.heap.size w4 w14 := g2.trans (g3.mono g2.size))
        | (go_at_call 15; (with_reducible refine (sameQ _ _ _ _ s23 s3 fc).mono ?_); rintro e w15 ⟨rfl, g4⟩; have g4 : Below w4.heap.size w4 w15 := g3.trans (g4.mono g3.size))
        | (go_at_call 10; (with_reducible refine (A10.out _).mono ?_); rintro e w16 ⟨u5', rfl, g5, s5⟩; have g5 : Below w4.heap.size w4 w16 := g4.trans (g5.mono g4.size))
        | (go_at_call 16; (with_reducible refine (backQ _ _ _ s5 lt1).mono ?_); rintro e w17 ⟨u6', rfl, g6, s6⟩; have g6 : Below w4.heap.size w4 w17 := g5.trans (g6.mono g5.size))
        | (go_at_call 19; (with_reducible refine (A11.out _).mono ?_); rintro e w18 ⟨u7', rfl, g7, s7⟩; have s67 := s6.below g7; have g7 : Below w4.heap.size w4 w18 := g6.trans (g7.mono g6.size))
        | (go_at_call 15; (with_reducible refine (sameQ _ _ _ _ s67 s7 (turnsR_fit _ _)).mono ?_); rintro e w19 ⟨rfl, g8⟩; have g8 : Below w4.heap.size w4 w19 := g7.trans (g8.mono g7.size)))
    go_wp2_with fail
    go_loopw [10, 11] (fun vm vi wr => ∃ i : Nat, i ≤ n ∧ vi = .int .i64 i ∧ vm = .bool true ∧ Below w4.heap.size w4 wr) (fun _ vi _ => n - (intOf vi).toNat)
    case atStart => exact ⟨0, Nat.zero_le _, rfl, rfl, g8⟩
    case round =>
      obtain ⟨i, hi, rfl, rfl, hbr⟩ := hrel
      by_cases hlt : i < n
      · have hix : i < xs.length := hn.out ▸ hlt
        obtain ⟨b, off, rfl, hbl, y0, y1, y2, y3, y4, y5⟩ := r24.nth i hix
        obtain ⟨b', off', rfl, hbl', z0, _, _, _, _, _⟩ := rx4.nth i hix
        generalize xs[i] = d at *
        obtain ⟨d0, d1, d2, d3, d4, d5⟩ := d
        have p0 := keepF hbr _ _ _ y0
        have p1 := keepF hbr _ _ _ y1
        have p2 := keepF hbr _ _ _ y2
        have p3 := keepF hbr _ _ _ y3
        have p4 := keepF hbr _ _ _ y4
        have p5 := keepF hbr _ _ _ y5
        have q0 := keepF hbr _ _ _ z0
        have hbw := cell_lt p0
        have hbw' := cell_lt q0
        have hi0 : (0 : Int) ≤ (i : Int) := by omega
        have hin : (i : Int) < (n : Int) := by omega
        have hmay : ∀ W, Calls Try.prog 9 #[.agg #[.int .i64 d0, .int .i64 d1, .int .i64 d2, .int .i64 d3, .int .i64 d4, .float .f64 d5]] W fun e w' => e = .returned (.bool (mayB d0)) ∧ Below W.heap.size W w' := fun W => may_any ⟨d0, d1, d2, d3, d4, d5⟩ W
        simp only at p0 p1 p2 p3 p4 p5 q0
        clear y0 y1 y2 y3 y4 y5 z0 A8 A9 A10 A11 A1 A2 A3 A4 A5 A6 A7
        by_cases hd1 : 1 ≤ d0
        · have hd1b : decide (1 ≤ d0) = true := decide_eq_true hd1
          by_cases hd2 : d0 ≤ 4
          · have hd2b : decide (d0 ≤ 4) = true := decide_eq_true hd2
            have hmb : mayB d0 = true := decide_eq_true ⟨hd1, hd2⟩
            rw [hmb] at hmay
            replace hmay := Lib.hid hmay
            go_wp2_with fail
            refine wp_region_ext (by kernel_rfl) (by kernel_rfl) ?_
            repeat (go_big_quiet_step ((first
               | (go_at_call 9; exact ext_of (hmay.out _)))))
            refine wpQuiet_nil ?_
            rintro _ ⟨e, rfl⟩
            have hbe := hbr.trans (e.below.mono hbr.size)
            go_wp2
            exact ⟨⟨i + 1, by omega, by go_num, by first | rfl | trivial, hbe⟩, by simp [intOf]; omega⟩
          · have hd2b : decide (d0 ≤ 4) = false := decide_eq_false hd2
            have hmb : mayB d0 = false := decide_eq_false (fun h => hd2 h.2)
            rw [hmb] at hmay
            replace hmay := Lib.hid hmay
            go_wp2_with fail
            refine wp_region_ext (by kernel_rfl) (by kernel_rfl) ?_
            repeat (go_big_quiet_step ((first
               | (go_at_call 9; exact ext_of (hmay.out _)))))
            refine wpQuiet_nil ?_
            rintro _ ⟨e, rfl⟩
            have hbe := hbr.trans (e.below.mono hbr.size)
            go_wp2
            exact ⟨⟨i + 1, by omega, by go_num, by first | rfl | trivial, hbe⟩, by simp [intOf]; omega⟩
        · have hd1b : decide (1 ≤ d0) = false := decide_eq_false hd1
          have hmb : mayB d0 = false := decide_eq_false (fun h => hd1 h.1)
          rw [hmb] at hmay
          replace hmay := Lib.hid hmay
          go_wp2_with fail
          refine wp_region_ext (by kernel_rfl) (by kernel_rfl) ?_
          repeat (go_big_quiet_step ((first
             | (go_at_call 9; exact ext_of (hmay.out _)))))
          refine wpQuiet_nil ?_
          rintro _ ⟨e, rfl⟩
          have hbe := hbr.trans (e.below.mono hbr.size)
          go_wp2
          exact ⟨⟨i + 1, by omega, by go_num, by first | rfl | trivial, hbe⟩, by simp [intOf]; omega⟩
      · have hie : i = n := by omega
        subst hie
        have hj0 : ¬ ((i : Int) < (i : Int)) := by omega
        clear hlt
        have k2 := keepF hbr _ _ _ c2'
        have k3 := keepF hbr _ _ _ c3'
        go_wp2_with fail
        go_region_held3 (fun w' => w'.cell? ⟨w.heap.size, 2, .none⟩ = some (.int .i64 k) ∧ w'.cell? ⟨w.heap.size, 3, .none⟩ = some (.slice az p cz))
          (first | exact ⟨keepF hbr _ _ _ c2', keepF hbr _ _ _ c3'⟩ | exact ⟨keepF hbr.drew _ _ _ c2', keepF hbr.drew _ _ _ c3'⟩ | exact ⟨keepF m1 _ _ _ c2', keepF m1 _ _ _ c3'⟩ | exact ⟨keepF m2 _ _ _ c2', keepF m2 _ _ _ c3'⟩ | exact ⟨keepF m3 _ _ _ c2', keepF m3 _ _ _ c3'⟩ | exact ⟨keepF m4 _ _ _ c2', keepF m4 _ _ _ c3'⟩)
          (first
            | (go_at_call 8; (with_reducible refine (A12.out _ hbr.drew).mono ?_); rintro e w20 ⟨u1'', rfl, m1, t1⟩; have m1 : Below w4.heap.size w4 w20 := hbr.drew.trans (m1.mono hbr.size))
            | (go_at_call 16; (with_reducible refine (backQ _ _ _ t1 lt2).mono ?_); rintro e w21 ⟨u2'', rfl, m2, t2⟩; have m2 : Below w4.heap.size w4 w21 := m1.trans (m2.mono m1.size))
            | (go_at_call 20; (with_reducible refine (A13.out _ m2).mono ?_); rintro e w22 ⟨u3'', rfl, m3, t3⟩; have t23 := t2.below m3; have m3 : Below w4.heap.size w4 w22 := m2.trans (m3.mono m2.size))
            | (go_at_call 15; (with_reducible refine (sameQ _ _ _ _ t23 t3 (turnsR_fit _ _)).mono ?_); rintro e w23 ⟨rfl, m4⟩; have m4 : Below w4.heap.size w4 w23 := m3.trans (m4.mono m3.size)))
        go_wp2
        go_ret
        exact ⟨rfl, hb04.trans (m4.mono hs4)⟩
  · have hcase : 100 < n ∨ (n ≤ 100 ∧ (100 < m ∨ (m ≤ 100 ∧ (300 < q ∨ (q ≤ 300 ∧ 20 < p))))) := by omega
    rcases hcase with h1 | ⟨h1, h2 | ⟨h2, h3 | ⟨h3, h4⟩⟩⟩
    all_goals
      go_enter Try.func6, Try.ntmps6
      go_wp2_with fail
      refine (awake_any _).mono ?_
      rintro e w1 ⟨rfl, hb1⟩
      obtain ⟨hb01, x0, x1, x2, x3, x4, hs01⟩ := hbox.out _ hb1
      go_wp2
      go_ret
      exact ⟨rfl, hb01⟩
end Go.Proofs.Ytpplmgahpohbmaa
