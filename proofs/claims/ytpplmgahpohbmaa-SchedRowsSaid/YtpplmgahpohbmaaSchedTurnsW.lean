/- The law SchedTurns: the walk. -/
import Derived.Test.YtpplmgahpohbmaaSchA
import Derived.Test.YtpplmgahpohbmaaRwO
namespace Go.Proofs.Ytpplmgahpohbmaa
open Go.RowKit Fl
attribute [local go_sem ↓] Go.wp_at_zero Go.wp_at_succ

theorem RdZ.i {w : World} {v : Value} {zs : List Int} (h : RdZ .i64 w v zs) : RdI w v zs := h.cells
theorem infoInt : (Try.prog.info? 3).map (fun i => (i.zero, i.size, i.bytes)) = some (some (.int .i64 0), 1, 8) := by kernel_rfl
theorem ints_one {k : IntKind} (zs : List Int) : ∀ u ∈ zs.map (Value.int k), u.oneCell' = true := by
  intro u hu
  obtain ⟨z, _, rfl⟩ := List.mem_map.1 hu
  rfl
theorem turnsL_get (zs : List Int) (k i : Nat) (hi : i < (turnsL zs k).length) (hm : i % zs.length < zs.length) : (turnsL zs k)[i] = stepC (zs[i % zs.length]) := by
  induction k with
  | zero => simp [turnsL] at hi
  | succ k ih =>
    have hl := turnsL_length zs k
    have e : turnsL zs (k + 1) = turnsL zs k ++ zs.map stepC := rfl
    simp only [e]
    by_cases h : i < (turnsL zs k).length
    · rw [List.getElem_append_left h]; exact ih h
    · have hi2 : i < k * zs.length + zs.length := by
        have := hi
        rw [turnsL_length, Nat.add_mul, Nat.one_mul] at this; exact this
      have e2 : i % zs.length = i - k * zs.length := by
        have : i = (i - k * zs.length) + k * zs.length := by omega
        conv => lhs; rw [this]
        rw [Nat.add_mul_mod_self_right, Nat.mod_eq_of_lt (by omega)]
      rw [List.getElem_append_right (by omega), List.getElem_map]
      congr 1
      simp only [e2, hl]
theorem turnsR_eq (zs : List Int) (k : Nat) (h : k * zs.length ≤ 2000) : turnsR zs (k : Int) = turnsL zs k := by
  unfold turnsR
  by_cases h0 : zs = []
  · subst h0
    rw [if_pos (.inl rfl)]
    have : (turnsL [] k).length = 0 := by rw [turnsL_length]; rfl
    exact (List.eq_nil_of_length_eq_zero this).symm
  · have hl0 : zs.length ≠ 0 := fun h => h0 (List.eq_nil_of_length_eq_zero h)
    have : (k : Int) ≤ 2000 / (zs.length : Int) := (Int.le_ediv_iff_mul_le (by omega)).2 (by
      have : ((k * zs.length : Nat) : Int) ≤ 2000 := by omega
      rwa [Int.natCast_mul] at this)
    rw [if_neg (by simp only [h0, false_or]; omega)]
    simp
theorem turns_fit (zs : List Int) (k : Nat) : ∀ c ∈ turnsL zs k, c.fit := by
  induction k with
  | zero => intro c hc; cases hc
  | succ k ih =>
    intro c hc
    rcases List.mem_append.1 (show c ∈ turnsL zs k ++ zs.map stepC from hc) with h | h
    · exact ih c h
    · obtain ⟨z, _, rfl⟩ := List.mem_map.1 h
      show (0 : Nat) < 18446744073709551616
      decide
theorem sameL_refl (xs : List Ch) : sameL xs xs = true := by
  induction xs with
  | nil => rfl
  | cons x xs ih =>
    show (sameC x x && sameL xs xs) = true
    rw [ih]; simp [sameC]

theorem may_step (z : Int) (w : World) : Calls Try.prog 9 #[.agg #[.int .i64 3, .int .i64 z, .int .i64 0, .int .i64 0, .int .i64 0, .float .f64 0]] w fun e w' => e = .returned (.bool true) ∧ Below w.heap.size w w' := may_any (stepC z) w

set_option maxRecDepth 100000 in
set_option maxHeartbeats 1000000 in
theorem schedTurns_any (zs : List Int) (v : Value) (n : Int) (w : World) (hr : RdZ .u8 w v zs) (hz : ∀ z ∈ zs, 0 ≤ z ∧ z ≤ 255) (hn0 : 0 ≤ n) (hn1 : n ≤ 255) :
    Calls Try.prog 3 #[v, .int .u8 n] w fun e w' => e = .returned (.bool true) ∧ Below w.heap.size w w' := by
  obtain ⟨ao, cap, rfl, hcap, hcm, hrow⟩ := hr.cells
  by_cases hlong : 50 < zs.length
  · have h1 : (50 : Int) < (zs.length : Int) := by omega
    go_enter Try.func3, Try.ntmps3
    go_wp2_with (go_at_call 7; refine (awake_any _).mono ?_; rintro e w1 ⟨rfl, hb1⟩)
    go_ret
    exact ⟨rfl, hb1⟩
  · obtain ⟨m, hm, hm'⟩ := nm zs.length
    rw [← hm'] at hcap hlong ⊢
    obtain ⟨k, hk⟩ : ∃ k : Nat, n % 30 = (k : Int) := ⟨(n % 30).toNat, by omega⟩
    have hk30 : k < 30 := by omega
    have hmN : m ≤ 50 := by omega
    obtain ⟨N, hN⟩ : ∃ N : Nat, k * m = N := ⟨_, rfl⟩
    have hNb : N ≤ 1450 := by rw [← hN]; exact Nat.mul_le_mul (by omega : k ≤ 29) hmN
    have hNI : (k : Int) * (m : Int) = (N : Int) := by rw [← hN, Int.natCast_mul]
    have hN' := Lib.hid hN
    clear hm' hN
    obtain ⟨i0, hi0, hz0, hz1, hz2⟩ := info_parts infoInt
    go_enter Try.func3, Try.ntmps3
    go_wp2_with fail
    refine (awake_any _).mono ?_
    rintro e w1 ⟨rfl, hb1⟩
    have hs1 := hb1.size
    go_wp2_with fail
    go_loopw [5, 6] (fun vo vi wr => ∃ i : Nat, i ≤ m ∧ vi = .int .i64 i ∧ wr.ownsRow w.heap.size 3 1 vo i ((zs.take i).map (Value.int .i64)) ∧ Below w.heap.size w wr) (fun _ vi _ => m - (intOf vi).toNat)
    case atStart => exact ⟨0, Nat.zero_le _, rfl, ⟨rfl, .inl ⟨rfl, rfl⟩⟩, hb1⟩
    case round =>
      obtain ⟨i, hi, rfl, ho, hbr⟩ := hrel
      have hbs := hbr.size
      by_cases hlt : i < m
      · have hiz : i < zs.length := hm.out ▸ hlt
        obtain ⟨b, off, rfl, hb, hc⟩ := hrow (fun h => by rw [h] at hiz; simp at hiz)
        have hc := keepF hbr _ _ _ (hc i hiz)
        have hzb := hz _ (List.getElem_mem hiz)
        have hnx := Lib.hid (show (zs.take (i + 1)).map (Value.int .i64) = (zs.take i).map (Value.int .i64) ++ [.int .i64 zs[i]] by rw [List.take_succ_eq_append_getElem hiz, List.map_append]; rfl)
        generalize zs[i] = z at *
        obtain ⟨hz0', hz1'⟩ := hzb
        go_wp2_with (refine wpList_append_rd rfl (.tmp 23) (.tmp 29) 24 rfl w.heap.size 3 i0 _ 1 8 Try.underlying24 hi0 hz0 hz1 hz2 rfl (by omega) _ i _ rfl (ho.alloc _) _ 1 [Value.int .i64 z] rfl (RdS.new (cs := #[Value.int .i64 z]) (t := 3) (sz := 1) (n := 1) (heap_alloc_new wr _) rfl (by omega)) (ints_one [z]) (by simp only [maxLen]; omega) (by omega) (by simp; omega) ?_; intro v1 w1' hown1 hgrow1 hat1; have hbr1 := grown_belowS (hbr.alloc hbr.size _) (ho.alloc _) (by simp; omega) hgrow1)
        refine ⟨⟨i + 1, by omega, by go_num, ?_, hbr1⟩, by simp [intOf]; omega⟩
        rw [hnx.out]
        exact hown1
      · have hie : i = m := by omega
        subst hie
        have hj0 : ¬ ((i : Int) < (i : Int)) := by omega
        rw [List.take_of_length_le (by rw [← hm.out]; exact Nat.le_refl _)] at ho
        have hwho : RdI wr u5 zs := by
          have h := RdS.of_own ho
          refine RdZ.i ?_
          show RdS wr 1 u5 zs.length _
          rw [← hm.out]; exact h
        clear hlt hj0
        go_wp2_with fail
        refine (turns_any zs _ (k : Int) _ hwho (by omega) (by omega)).mono ?_
        rintro e w2 ⟨v2, rfl, hb2, ho2⟩
        have hkm : k * zs.length = N := by rw [← hm.out]; exact hN'.out
        rw [turnsR_eq zs k (by rw [hkm]; omega)] at ho2
        have r2 := ho2.rd
        have hlen2 : (turnsL zs k).length = N := by rw [turnsL_length]; exact hkm
        have hb02 : Below w.heap.size w w2 := hbr.trans (hb2.mono hbs)
        have hs02 := hb02.size
        obtain ⟨ao2, c2, e2, hc2, hcm2, hrow2⟩ := id r2
        rw [hlen2] at e2 hc2
        subst e2
        have hgetc : ∀ j (hj : j < N), ∃ z, zs[j % zs.length]? = some z ∧ (0 ≤ z ∧ z ≤ 255) ∧ (∃ b off, ao2 = some ⟨b, off, .none⟩ ∧ b < w2.heap.size ∧ ∀ q, q < 6 → w2.cell? ⟨b, off + j * 6 + q, .none⟩ = (stepC z).cells[q]?) := fun j hj => by
          have hj2 : j < (turnsL zs k).length := by rw [hlen2]; exact hj
          have hz0 : zs.length ≠ 0 := fun h => by rw [turnsL_length, h] at hj2; omega
          have hm2 : j % zs.length < zs.length := Nat.mod_lt _ (by omega)
          obtain ⟨b, off, ea, hlt, hcs⟩ := hrow2 (fun h => by rw [h] at hj2; simp at hj2)
          refine ⟨zs[j % zs.length], List.getElem?_eq_getElem hm2, hz _ (List.getElem_mem _), b, off, ea, hlt, fun q hq => ?_⟩
          rw [← turnsL_get zs k j hj2 hm2]
          exact hcs j q hj2 hq
        have hgetc := Lib.hid hgetc
        have hrow2 := Lib.hid hrow2
        have hlen2' := Lib.hid hlen2
        have hkm' := Lib.hid hkm
        clear hlen2 hkm
        go_wp2_with fail
        go_loopw [9] (fun vi wr => ∃ j : Nat, j ≤ N ∧ vi = .int .i64 j ∧ Below w2.heap.size w2 wr) (fun vi _ => N - (intOf vi).toNat)
        case atStart => exact ⟨0, Nat.zero_le _, rfl, Below.refl _ _⟩
        case round =>
          obtain ⟨j, hj, rfl, hbr3⟩ := hrel
          by_cases hlt : j < N
          · obtain ⟨z, hzj, ⟨hzb0, hzb1⟩, b, off, rfl, hbl, hcs⟩ := hgetc.out j hlt
            have hz0 : zs ≠ [] := fun h => by rw [h] at hzj; simp at hzj
            obtain ⟨b', off', rfl, hb', hc'⟩ := hrow hz0
            have hjm : j % i < zs.length := by rw [← hm.out]; exact Nat.mod_lt _ (by have := List.length_pos_iff.2 hz0; rw [hm.out]; exact this)
            have hi1 : 1 ≤ i := by have := List.length_pos_iff.2 hz0; rw [hm.out]; exact this
            have cz0 := hc' (j % i) hjm
            have ezz : zs[j % i] = z := by
              have := hzj
              rw [← hm.out, List.getElem?_eq_getElem hjm] at this
              exact Option.some.inj this
            rw [ezz] at cz0
            have cz := keepF hbr3 _ _ _ (keepF hb02 _ _ _ cz0)
            have x0 : wr.cell? ⟨b, off + j * 6, .none⟩ = some (.int .i64 3) := keepF hbr3 _ _ _ (hcs 0 (by omega))
            have x1 : wr.cell? ⟨b, off + j * 6 + 1, .none⟩ = some (.int .i64 z) := keepF hbr3 _ _ _ (hcs 1 (by omega))
            have x2 : wr.cell? ⟨b, off + j * 6 + 2, .none⟩ = some (.int .i64 0) := keepF hbr3 _ _ _ (hcs 2 (by omega))
            have x3 : wr.cell? ⟨b, off + j * 6 + 3, .none⟩ = some (.int .i64 0) := keepF hbr3 _ _ _ (hcs 3 (by omega))
            have x4 : wr.cell? ⟨b, off + j * 6 + 4, .none⟩ = some (.int .i64 0) := keepF hbr3 _ _ _ (hcs 4 (by omega))
            have x5 : wr.cell? ⟨b, off + j * 6 + 5, .none⟩ = some (.float .f64 0) := keepF hbr3 _ _ _ (hcs 5 (by omega))
            have hj0 : (0 : Int) ≤ (j : Int) := by omega
            have hjN : (j : Int) < (N : Int) := by omega
            have hjiI : (j : Int) % (i : Int) < (i : Int) := Int.emod_lt_of_pos _ (by omega)
            have hji0 : (0 : Int) ≤ (j : Int) % (i : Int) := Int.emod_nonneg _ (by omega)
            have hmodN : ((j : Int) % (i : Int)).toNat = j % i := rfl
            clear hcs hgetc hzj ezz hjm cz0
            have hbw : b < wr.heap.size := cell_lt x0
            have hbw' : b' < wr.heap.size := cell_lt cz
            go_wp2_with fail
            refine wp_region_ext (by kernel_rfl) (by kernel_rfl) ?_
            repeat (go_big_quiet_step ((first
               | (go_at_call 9; exact ext_of (may_step z _)))))
            refine wpQuiet_nil ?_
            rintro _ ⟨e, rfl⟩
            have hbe := hbr3.trans (e.below.mono hbr3.size)
            go_wp2
            exact ⟨⟨j + 1, by omega, by go_num, hbe⟩, by simp [intOf]; omega⟩
          · have hje : j = N := by omega
            subst hje
            have hj0 : ¬ ((j : Int) < (j : Int)) := by omega
            clear hlt
            have hb3 : Below w.heap.size w wr := hb02.trans (hbr3.mono hs02)
            have hs3 := hb3.size
            have e7 : turnsR [7] (k : Int) = turnsL [7] k := turnsR_eq [7] k (by simp; omega)
            have e7l : (turnsL [7] k).length = k := by rw [turnsL_length]; simp
            have e7g : ∀ i (hi : i < (turnsL [7] k).length), (turnsL [7] k)[i] = stepC 7 := fun i hi => by
              have h1 : i % ([7] : List Int).length < ([7] : List Int).length := Nat.mod_lt _ (by simp)
              rw [turnsL_get [7] k i hi h1]
              congr 1
              simp
            have e7 := Lib.hid e7
            have e7l := Lib.hid e7l
            have e7g := Lib.hid e7g
            go_wp2_with fail
            refine (alone_any 7 (k : Int) _ (by omega) (by omega)).mono ?_
            rintro e w4 ⟨v4, rfl, hb4, ho4⟩
            rw [e7.out] at ho4
            have r4 := ho4.rd
            obtain ⟨ao4, c4, e4, hc4, hcm4, hrow4⟩ := id r4
            rw [e7l.out] at e4 hc4
            subst e4
            have hrow4 := Lib.hid hrow4
            have hb04 : Below w.heap.size w w4 := hb3.trans (hb4.mono hs3)
            have hs4 := hb04.size
            go_wp2_with fail
            go_loopw [11] (fun vi wr => ∃ j : Nat, j ≤ k ∧ vi = .int .i64 j ∧ wr = w4) (fun vi _ => k - (intOf vi).toNat)
            case atStart => exact ⟨0, Nat.zero_le _, rfl, rfl⟩
            case round =>
              obtain ⟨q, hq, rfl, rfl⟩ := hrel
              by_cases hlt : q < k
              · have hq7 : q < (turnsL [7] k).length := by rw [e7l.out]; exact hlt
                obtain ⟨b, off, rfl, hbl, hcs⟩ := hrow4.out (fun h => by rw [h] at hq7; simp at hq7)
                have x0 := hcs q 0 hq7 (by omega)
                have x1 := hcs q 1 hq7 (by omega)
                rw [e7g.out q hq7] at x0 x1
                replace x0 : wr.cell? ⟨b, off + q * 6, .none⟩ = some (.int .i64 3) := x0
                replace x1 : wr.cell? ⟨b, off + q * 6 + 1, .none⟩ = some (.int .i64 7) := x1
                have hq0 : (0 : Int) ≤ (q : Int) := by omega
                have hqN : (q : Int) < (k : Int) := by omega
                clear hcs
                go_wp2
                exact ⟨⟨q + 1, by omega, by go_num, by first | rfl | trivial⟩, by simp [intOf]; omega⟩
              · have hqe : q = k := by omega
                subst hqe
                have hj0 : ¬ ((q : Int) < (q : Int)) := by omega
                clear hlt
                go_wp2_with fail
                refine (turns_any [7] _ (q : Int) _ (RdI.one 7 wr _) (by omega) (by omega)).mono ?_
                rintro e w5 ⟨v5, rfl, hb5, ho5⟩
                rw [e7.out] at ho5
                have hal : Below wr.heap.size wr w5 := ((Below.refl _ _).alloc (Nat.le_refl _) _).trans (hb5.mono (by simp))
                have hb05 : Below w.heap.size w w5 := hb04.trans (hal.mono hs4)
                have r5 := ho5.rd
                have r45 := r4.below hal
                go_wp2_with fail
                refine (same_row _ _ _ _ _ r5 r45 (turns_fit _ _) (turns_fit _ _)).mono ?_
                rintro e w6 ⟨rfl, hb6⟩
                rw [sameL_refl]
                go_wp2
                go_ret
                exact ⟨rfl, hb05.trans (hb6.mono hb05.size)⟩
end Go.Proofs.Ytpplmgahpohbmaa
