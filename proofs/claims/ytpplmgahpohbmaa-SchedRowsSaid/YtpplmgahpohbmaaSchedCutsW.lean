/- The law SchedCuts: the walk. -/
import Derived.Test.YtpplmgahpohbmaaSchedKeepsP
import Derived.IntWalk
namespace Go.Proofs.Ytpplmgahpohbmaa
open Go.RowKit Fl
attribute [local go_sem ↓] Go.wp_at_zero Go.wp_at_succ
attribute [local go_sem high] run_cut_l run_cut_h run_cut_lh

theorem cutL_take (L : List Ch) (t c : Int) : (cutL L t c).take (cutK L t) = L.take (cutK L t) := by
  have hk := cutK_le L t
  have hl : (L.take (cutK L t)).length = cutK L t := by rw [List.length_take]; omega
  unfold cutL
  rw [List.take_append, hl, Nat.sub_self, List.take_zero, List.append_nil, List.take_of_length_le (by omega)]
theorem cutL_drop (L : List Ch) (t c : Int) : (cutL L t c).drop (cutK L t + 1) = L.drop (cutK L t) := by
  have hk := cutK_le L t
  have hl : (L.take (cutK L t)).length = cutK L t := by rw [List.length_take]; omega
  unfold cutL
  rw [List.drop_append, hl, List.drop_of_length_le (by omega), Nat.add_sub_cancel_left, List.nil_append]
  rfl
theorem cutL_mem {L : List Ch} {t c : Int} (h : ∀ x ∈ L, x.fit) : ∀ x ∈ cutL L t c, x.fit := fun x hx => by
  rcases List.mem_append.1 hx with h' | h'
  · exact h x (List.mem_of_mem_take h')
  · rcases List.mem_cons.1 h' with rfl | h'
    · show (0 : Nat) < _; decide
    · exact h x (List.mem_of_mem_drop h')
/-- The first two cells of a choice of a row. -/
theorem RdC.two {w : World} {ao : Option Addr} {n cap : Nat} {xs : List Ch} {x : Ch} {i : Nat} (r : RdC w (.slice ao n cap) xs) (h : xs[i]? = some x) : ∃ b off, ao = some ⟨b, off, .none⟩ ∧ b < w.heap.size ∧ w.cell? ⟨b, off + i * 6, .none⟩ = some (.int .i64 x.kind) ∧ w.cell? ⟨b, off + i * 6 + 1, .none⟩ = some (.int .i64 x.client) := by
  obtain ⟨hi, rfl⟩ := List.getElem?_eq_some_iff.1 h
  obtain ⟨b, off, e, hb, x0, x1, _⟩ := r.nth i hi
  exact ⟨b, off, e, hb, x0, x1⟩
/-- Same of two cuts that read alike. -/
theorem same_eq (xs ys : List Ch) (v u : Value) (w : World) (hx : RdC w v xs) (hy : RdC w u ys) (f : ∀ c ∈ xs, c.fit) (e : xs = ys) :
    Calls Try.prog 11 #[v, u] w fun e w' => e = .returned (.bool true) ∧ Below w.heap.size w w' := by
  subst e
  have := same_row xs xs v u w hx hy f f
  rwa [sameL_refl] at this

set_option maxRecDepth 100000 in
set_option maxHeartbeats 2000000 in
theorem schedCuts_any (xs : List Ch) (v : Value) (t c : Nat) (w : World) (hr : RdC w v xs) (hf : ∀ x ∈ xs, x.fit) (ht : t ≤ 65535) (hc : c ≤ 255) :
    Calls Try.prog 5 #[v, .int .u16 t, .int .u8 c] w fun e w' => e = .returned (.bool true) ∧ Below w.heap.size w w' := by
  obtain ⟨ao, cap, e, hcap, hcm, _⟩ := id hr
  subst e
  by_cases hlong : 300 < xs.length
  · have h1 : (300 : Int) < (xs.length : Int) := by omega
    go_enter Try.func5, Try.ntmps5
    go_wp2_with (go_at_call 7; refine (awake_any _).mono ?_; rintro e w1 ⟨rfl, hb1⟩)
    go_ret
    exact ⟨rfl, hb1⟩
  · obtain ⟨n, hn, hn'⟩ := nm xs.length
    have hn300 : n ≤ 300 := by omega
    have hr' := hr
    rw [← hn'] at hcap hr' hlong ⊢
    clear hn'
    obtain ⟨k, hk⟩ : ∃ k : Nat, (t : Int) % ((n : Int) + 1) = (k : Int) := ⟨((t : Int) % ((n : Int) + 1)).toNat, by have := Int.emod_nonneg (t : Int) (show (n : Int) + 1 ≠ 0 by omega); omega⟩
    have hkn : k ≤ n := by have := Int.emod_lt_of_pos (t : Int) (show 0 < (n : Int) + 1 by omega); omega
    have hK : cutK xs (k : Int) = k := by unfold cutK; rw [← hn.out]; omega
    obtain ⟨X, hX⟩ : ∃ X, X = cutL xs (k : Int) (c : Int) := ⟨_, rfl⟩
    obtain ⟨Y, hY⟩ : ∃ Y, Y = cutL X ((n : Int) + 1) ((c : Int) + 1) := ⟨_, rfl⟩
    obtain ⟨Z, hZ⟩ : ∃ Z, Z = cutL xs (-5) (c : Int) := ⟨_, rfl⟩
    have lX : X.length = n + 1 := by rw [hX, cutL_length, ← hn.out]
    have lY : Y.length = n + 1 + 1 := by rw [hY, cutL_length, lX]
    have lZ : Z.length = n + 1 := by rw [hZ, cutL_length, ← hn.out]
    have kY : cutK X ((n : Int) + 1) = n + 1 := by unfold cutK; rw [lX]; omega
    have kZ : cutK xs (-5) = 0 := by unfold cutK; omega
    have fX : ∀ x ∈ X, x.fit := hX ▸ cutL_mem hf
    have fY : ∀ x ∈ Y, x.fit := hY ▸ cutL_mem fX
    have fZ : ∀ x ∈ Z, x.fit := hZ ▸ cutL_mem hf
    have s1 : X.take k = xs.take k := by have := cutL_take xs (k : Int) (c : Int); rwa [hK, ← hX] at this
    have s2 : X.drop (k + 1) = xs.drop k := by have := cutL_drop xs (k : Int) (c : Int); rwa [hK, ← hX] at this
    have s3 : Y.take (n + 1) = X := by
      have := cutL_take X ((n : Int) + 1) ((c : Int) + 1)
      rw [kY, ← hY] at this
      rw [this, List.take_of_length_le (by omega)]
    have s4 : Z.drop 1 = xs := by have := cutL_drop xs (-5) (c : Int); rwa [kZ, ← hZ] at this
    have g1 : Y[n + 1]? = some (killC ((c : Int) + 1)) := by have := cutL_at X ((n : Int) + 1) ((c : Int) + 1); rwa [kY, ← hY] at this
    have g2 : Z[0]? = some (killC (c : Int)) := by have := cutL_at xs (-5) (c : Int); rwa [kZ, ← hZ] at this
    replace hX := Lib.hid hX
    replace hY := Lib.hid hY
    replace hZ := Lib.hid hZ
    replace lX := Lib.hid lX
    replace lY := Lib.hid lY
    replace lZ := Lib.hid lZ
    replace s1 := Lib.hid s1
    replace s2 := Lib.hid s2
    replace s3 := Lib.hid s3
    replace s4 := Lib.hid s4
    replace g1 := Lib.hid g1
    replace g2 := Lib.hid g2
    clear hK kY kZ
    go_enter Try.func5, Try.ntmps5
    go_wp2_with fail
    refine (awake_any _).mono ?_
    rintro e w1 ⟨rfl, hb1⟩
    have hs1 := hb1.size
    go_wp2_with fail
    refine (choices_any xs _ _ (hr'.below hb1) (by rw [← hn.out]; omega)).mono ?_
    rintro e w2 ⟨v2, rfl, hb2, ho2⟩
    have hb02 : Below w.heap.size w w2 := hb1.trans (hb2.mono hs1)
    have r2 := ho2.rd
    obtain ⟨a2, c2, e2, hc2, hcm2, _⟩ := id r2
    rw [← hn.out] at e2 hc2
    subst e2
    clear ho2
    go_wp2_with fail
    refine (cut_any xs _ (k : Int) (c : Int) _ r2 (by rw [← hn.out]; omega) (by omega) (by omega)).mono ?_
    rintro e w3 ⟨v3, rfl, hb3, ho3⟩
    have hb03 : Below w.heap.size w w3 := hb02.trans (hb3.mono hb02.size)
    rw [← hX.out] at ho3
    have r3 := ho3.rd
    obtain ⟨a3, c3, e3, hc3, hcm3, _⟩ := id r3
    rw [lX.out] at e3 hc3
    subst e3
    have hw0 : 0 ≤ (c : Int) + 1 := by omega
    have hc3I : (n : Int) + 1 ≤ (c3 : Int) := by omega
    clear ho3
    go_wp2_with fail
    refine (cut_any X _ ((n : Int) + 1) ((c : Int) + 1) _ r3 (by rw [lX.out]; omega) (by omega) (by omega)).mono ?_
    rintro e w4 ⟨v4, rfl, hb4, ho4⟩
    have hb04 : Below w.heap.size w w4 := hb03.trans (hb4.mono hb03.size)
    rw [← hY.out] at ho4
    have r4 := ho4.rd
    obtain ⟨a4, c4, e4, hc4, hcm4, _⟩ := id r4
    rw [lY.out] at e4 hc4
    subst e4
    clear ho4
    have r24 := r2.below (hb3.trans (hb4.mono hb3.size))
    have r34 := r3.below hb4
    go_wp2_with fail
    refine (cut_any xs _ (-5) (c : Int) _ r24 (by rw [← hn.out]; omega) (by omega) (by omega)).mono ?_
    rintro e w5 ⟨v5, rfl, hb5, ho5⟩
    have hb05 : Below w.heap.size w w5 := hb04.trans (hb5.mono hb04.size)
    rw [← hZ.out] at ho5
    have r5 := ho5.rd
    obtain ⟨a5, c5, e5, hc5, hcm5, _⟩ := id r5
    rw [lZ.out] at e5 hc5
    subst e5
    clear ho5
    have r25 := r24.below hb5
    have r35 := r34.below hb5
    have r45 := r4.below hb5
    have r05 := hr'.below hb05
    obtain ⟨by4, oy4, rfl, hby4, y0, y1⟩ := r45.two g1.out
    obtain ⟨bz5, oz5, rfl, hbz5, z0, z1⟩ := r5.two g2.out
    replace y0 : w5.cell? ⟨by4, oy4 + (n + 1) * 6, .none⟩ = some (.int .i64 4) := y0
    replace y1 : w5.cell? ⟨by4, oy4 + (n + 1) * 6 + 1, .none⟩ = some (.int .i64 ((c : Int) + 1)) := y1
    replace z0 : w5.cell? ⟨bz5, oz5, .none⟩ = some (.int .i64 4) := by have h := z0; rwa [Nat.zero_mul, Nat.add_zero] at h
    have Q1 : ∀ W, Below w5.heap.size w5 W → Calls Try.prog 11 #[cutV a3 0 k c3 6, cutV a2 0 k c2 6] W fun e w' => e = .returned (.bool true) ∧ Below W.heap.size W w' := fun W h =>
      same_eq _ _ _ _ W ((r35.below h).cut (l := 0) (h := k) (Nat.zero_le _) (by omega)) ((r25.below h).cut (l := 0) (h := k) (Nat.zero_le _) (by omega)) (fun x hx => fX x (List.mem_of_mem_drop (List.mem_of_mem_take hx))) (by rw [List.drop_zero, List.drop_zero, Nat.sub_zero, s1.out])
    have Q2 : ∀ W, Below w5.heap.size w5 W → Calls Try.prog 11 #[cutV a3 (k + 1) (n + 1) c3 6, cutV a2 k n c2 6] W fun e w' => e = .returned (.bool true) ∧ Below W.heap.size W w' := fun W h =>
      same_eq _ _ _ _ W ((r35.below h).cut (l := k + 1) (h := n + 1) (by omega) (by omega)) ((r25.below h).cut (l := k) (h := n) (by omega) (by omega)) (fun x hx => fX x (List.mem_of_mem_drop (List.mem_of_mem_take hx)))
        (by rw [List.take_of_length_le (by rw [List.length_drop, lX.out]; omega), List.take_of_length_le (by rw [List.length_drop, ← hn.out]; omega), s2.out])
    have Q3 : ∀ W, Below w5.heap.size w5 W → Calls Try.prog 11 #[cutV (some ⟨by4, oy4, .none⟩) 0 (n + 1) c4 6, .slice a3 (n + 1) c3] W fun e w' => e = .returned (.bool true) ∧ Below W.heap.size W w' := fun W h =>
      same_eq _ _ _ _ W ((r45.below h).cut (l := 0) (h := n + 1) (Nat.zero_le _) (by omega)) (r35.below h) (fun x hx => fY x (List.mem_of_mem_drop (List.mem_of_mem_take hx))) (by rw [List.drop_zero, Nat.sub_zero, s3.out])
    have Q4 : ∀ W, Below w5.heap.size w5 W → Calls Try.prog 11 #[cutV (some ⟨bz5, oz5, .none⟩) 1 (n + 1) c5 6, .slice a2 n c2] W fun e w' => e = .returned (.bool true) ∧ Below W.heap.size W w' := fun W h =>
      same_eq _ _ _ _ W ((r5.below h).cut (l := 1) (h := n + 1) (by omega) (by omega)) (r25.below h) (fun x hx => fZ x (List.mem_of_mem_drop (List.mem_of_mem_take hx))) (by rw [List.take_of_length_le (by rw [List.length_drop, lZ.out]; omega), s4.out])
    have Q5 : ∀ W, Below w5.heap.size w5 W → Calls Try.prog 16 #[.slice a2 n c2] W fun e w' => ∃ v', e = .returned v' ∧ Below W.heap.size W w' ∧ RdC w' v' xs := fun W h =>
      (back_any xs _ W (r25.below h) (by rw [← hn.out]; omega)).mono fun e w' ⟨v', he, hb, ho⟩ => ⟨v', he, hb, ho.rd⟩
    have Q6 : ∀ W, Below w5.heap.size w5 W → ∀ u, RdC W u xs → Calls Try.prog 15 #[u, .slice ao n cap] W fun e w' => e = .returned (.bool true) ∧ Below W.heap.size W w' := fun W h u hu => by
      have := refSame_row xs xs u _ W hu (r05.below h) hf hf
      rwa [sameL_refl] at this
    replace Q1 := Lib.hid Q1
    replace Q2 := Lib.hid Q2
    replace Q3 := Lib.hid Q3
    replace Q4 := Lib.hid Q4
    replace Q5 := Lib.hid Q5
    replace Q6 := Lib.hid Q6
    have hk0 : (0 : Int) ≤ (k : Int) := by omega
    have hkn0 : (k : Int) ≤ (n : Int) := by omega
    have hkc2 : (k : Int) ≤ (c2 : Int) := by omega
    have hkc3 : (k : Int) ≤ (c3 : Int) := by omega
    have hkn1 : (k : Int) + 1 ≤ (n : Int) + 1 := by omega
    have hnc4 : (n : Int) + 1 ≤ (c4 : Int) := by omega
    have hs5 := hb05.size
    go_wp2_with fail
    have hwk : IntKind.i64.wrap ((k : Int) + 1) = (k : Int) + 1 := IntWalk.i64_in _ (by omega)
    have hwk0 : (0 : Int) ≤ (k : Int) + 1 := by omega
    have hwk1 : ((k : Int) + 1).toNat = k + 1 := by omega
    have hwc : IntKind.i64.wrap (c : Int) = (c : Int) := IntWalk.i64_in _ (by omega)
    have hwc1 : IntKind.i64.wrap ((c : Int) + 1) = (c : Int) + 1 := IntWalk.i64_in _ (by omega)
    have hwn : IntKind.i64.wrap ((n : Int) + 1 + 1 - 1) = (n : Int) + 1 := by rw [show (n : Int) + 1 + 1 - 1 = (n : Int) + 1 from by omega]; exact IntWalk.i64_in _ (by omega)
    have hwn' : IntKind.i64.wrap ((n : Int) + 1) = (n : Int) + 1 := IntWalk.i64_in _ (by omega)
    have hwn'' : IntKind.i64.wrap ((n : Int) + 2 - 1) = (n : Int) + 1 := by rw [show (n : Int) + 2 - 1 = (n : Int) + 1 from by omega]; exact IntWalk.i64_in _ (by omega)
    have hwn0 : (0 : Int) ≤ (n : Int) + 1 := by omega
    have hwn5 : (n : Int) + 1 < ((n + 1 + 1 : Nat) : Int) := by omega
    have hwn1 : ((n : Int) + 1).toNat = n + 1 := by omega
    have hwn2 : (n : Int) + 1 < (n : Int) + 1 + 1 := by omega
    have hwn3 : (1 : Int) ≤ (n : Int) + 1 := by omega
    conv => arg 2; arg 2; simp only [List.append_eq, List.cons_append, List.nil_append]
    go_region_held3 (fun w' => w'.cell? ⟨by4, oy4 + (n + 1) * 6, .none⟩ = some (.int .i64 4) ∧ w'.cell? ⟨by4, oy4 + (n + 1) * 6 + 1, .none⟩ = some (.int .i64 ((c : Int) + 1)) ∧ w'.cell? ⟨bz5, oz5, .none⟩ = some (.int .i64 4))
      (first | go_keep | exact ⟨keepF h1 _ _ _ y0, keepF h1 _ _ _ y1, keepF h1 _ _ _ z0⟩ | exact ⟨keepF h2 _ _ _ y0, keepF h2 _ _ _ y1, keepF h2 _ _ _ z0⟩ | exact ⟨keepF h3 _ _ _ y0, keepF h3 _ _ _ y1, keepF h3 _ _ _ z0⟩ | exact ⟨keepF h4 _ _ _ y0, keepF h4 _ _ _ y1, keepF h4 _ _ _ z0⟩ | exact ⟨keepF h5 _ _ _ y0, keepF h5 _ _ _ y1, keepF h5 _ _ _ z0⟩ | exact ⟨keepF h6 _ _ _ y0, keepF h6 _ _ _ y1, keepF h6 _ _ _ z0⟩)
      (first
        | (go_at_call 11; (with_reducible refine (Q1.out _ (Below.refl _ _).drew).mono ?_); rintro e w6 ⟨rfl, h1⟩; have h1 : Below w5.heap.size w5 w6 := (Below.refl _ _).drew.trans h1)
        | (go_at_call 11; (with_reducible refine (Q2.out _ h1).mono ?_); rintro e w7 ⟨rfl, h2⟩; have h2 : Below w5.heap.size w5 w7 := h1.trans (h2.mono h1.size))
        | (go_at_call 11; (with_reducible refine (Q3.out _ h2).mono ?_); rintro e w8 ⟨rfl, h3⟩; have h3 : Below w5.heap.size w5 w8 := h2.trans (h3.mono h2.size))
        | (go_at_call 11; (with_reducible refine (Q4.out _ h3).mono ?_); rintro e w9 ⟨rfl, h4⟩; have h4 : Below w5.heap.size w5 w9 := h3.trans (h4.mono h3.size))
        | (go_at_call 16; (with_reducible refine (Q5.out _ h4).mono ?_); rintro e w10 ⟨v10, rfl, h5, r10⟩; have h5 : Below w5.heap.size w5 w10 := h4.trans (h5.mono h4.size))
        | (go_at_call 15; (with_reducible refine (Q6.out _ h5 _ r10).mono ?_); rintro e w11 ⟨rfl, h6⟩; have h6 : Below w5.heap.size w5 w11 := h5.trans (h6.mono h5.size)))
    go_wp2
    go_ret
    exact ⟨rfl, hb05.trans (h6.mono hs5)⟩
end Go.Proofs.Ytpplmgahpohbmaa
