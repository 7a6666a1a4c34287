/- The reference's digits and number. -/
import Derived.Test.YtkeiehgojclecaaDoorScrW

import Derived.Deep.DrawnRows

import Derived.BigQuiet

namespace Go.Proofs.YtkeiehgojclecaaDoor

open Go.RowKit

attribute [local go_sem ↓] Go.wp_at_zero Go.wp_at_succ

theorem hexc_all : ∀ d : Fin 16, (ByteArray.mk #[48, 49, 50, 51, 52, 53, 54, 55, 56, 57, 97, 98, 99, 100, 101, 102]).extract d.val (d.val + 1) = S [hexd d.val] := by decide +kernel
theorem hexc {d : Nat} (h : d < 16) (t : List UInt8) : (ByteArray.mk #[48, 49, 50, 51, 52, 53, 54, 55, 56, 57, 97, 98, 99, 100, 101, 102]).extract d (d + 1) ++ S t = S (hexd d :: t) := by
  rw [hexc_all ⟨d, h⟩, S_append]; rfl
set_option maxRecDepth 100000 in
set_option maxHeartbeats 400000 in
theorem rdigits_any (D : Nat → List UInt8) (B : Nat) (hB : B = 10 ∨ B = 16) (hD : ∀ u, D u = if u < B then [hexd u] else D (u / B) ++ [hexd (u % B)]) (u : Nat) (hu : u < 18446744073709551616) (hl : (D u).length ≤ 64) (w : World) :
    Calls Tryd.prog 34 #[.int .u64 u, .int .u64 B] w fun e w' => e = .returned (.string (S (D u))) ∧ Below w.heap.size w w' := by
  have hB2 : 2 ≤ B ∧ B ≤ 16 := by omega
  replace hB := Lib.hid hB
  replace hl := Lib.hid hl
  replace hD := Lib.hid hD
  go_enter Tryd.func34, Tryd.ntmps34
  go_wp2_with fail
  go_loopw [0, 5] (fun v0 v5 wr => ∃ (x : Nat) (t : List UInt8), v0 = .int .u64 x ∧ v5 = .string (S t) ∧ x ≤ u ∧ D u = D x ++ t ∧ Below w.heap.size w wr) (fun v0 _ _ => (intOf v0).toNat)
  case atStart => exact ⟨u, [], rfl, rfl, Nat.le_refl _, by simp, Below.refl _ _⟩
  case round =>
    obtain ⟨x, t, rfl, rfl, hx, hrel, hbr⟩ := hrel
    obtain ⟨Y, rfl⟩ : ∃ V : World, V = wr := ⟨_, rfl⟩
    have htl : t.length ≤ 64 := by have := hl.out; rw [hrel] at this; simp at this; omega
    obtain ⟨d, hd, hd'⟩ : ∃ d, Hid (d = x % B) ∧ d = x % B := ⟨_, Lib.hid rfl, rfl⟩
    have hd16 : d < 16 := by rw [hd']; exact Nat.lt_of_lt_of_le (Nat.mod_lt _ (by omega)) hB2.2
    have em : (x : Int).tmod (B : Int) = (d : Int) := by rw [hd', ← Int.ofNat_tmod]
    have hBne : ((B : Int) == 0) = false := by simp; omega
    have hst := hexc hd16 t
    obtain ⟨q, hq, hq'⟩ : ∃ q, Hid (q = x / B) ∧ q = x / B := ⟨_, Lib.hid rfl, rfl⟩
    have hqx : q ≤ x := by rw [hq']; exact Nat.div_le_self _ _
    have ed : IntKind.u64.wrap ((x : Int) / (B : Int)) = (q : Int) := by
      have e1 : (x : Int) / (B : Int) = (q : Int) := by rw [hq']; exact (Int.natCast_ediv x B).symm
      rw [e1]; exact IntWalk.u64_in _ ⟨by omega, by omega⟩
    have hDx := hD.out x
    replace hrel := Lib.hid hrel
    clear hd' hq'
    by_cases hlt : x < B
    · have hq0 : q = 0 := by rw [hq.out]; exact Nat.div_eq_of_lt hlt
      have hfin : Hid (D u = hexd d :: t) := Lib.hid (by rw [hrel.out, hDx, if_pos hlt, hd.out, Nat.mod_eq_of_lt hlt]; rfl)
      subst hq0
      clear hDx
      go_wp2_with fail
      go_quiet (fail)
      have hbq := below_drewN hbr nq
      generalize Y.drewN nq = V at *
      go_wp2_with fail
      go_ret
      exact ⟨by rw [hfin.out]; rfl, hbq⟩
    · have hq0 : 0 < q := by rw [hq.out]; exact Nat.div_pos (by omega) (by omega)
      have hqe : ((q : Int) == 0) = false := by simp; omega
      have hlx : q < x := by rw [hq.out]; exact Nat.div_lt_self (by omega) (by omega)
      have hfin : Hid (D u = D q ++ (hexd d :: t)) := Lib.hid (by rw [hrel.out, hDx, if_neg hlt, ← hd.out, ← hq.out]; simp)
      clear hDx
      go_wp2_with fail
      go_quiet (fail)
      have hbq := below_drewN hbr nq
      generalize Y.drewN nq = V at *
      go_wp2_with fail
      exact ⟨⟨q, hexd d :: t, rfl, rfl, by omega, hfin.out, hbq⟩, by simp [intOf]; omega⟩
theorem dec_rec (u : Nat) : Lib.decDigits u = if u < 10 then [hexd u] else Lib.decDigits (u / 10) ++ [hexd (u % 10)] := by
  rw [Lib.decDigits]
  by_cases h : u < 10
  · rw [dif_pos h, if_pos h]; unfold hexd; rw [if_pos h]
  · rw [dif_neg h, if_neg h]; unfold hexd; rw [if_pos (Nat.mod_lt _ (by decide))]
theorem hex_rec (u : Nat) : hexL u = if u < 16 then [hexd u] else hexL (u / 16) ++ [hexd (u % 16)] := by
  by_cases h : u < 16
  · rw [if_pos h, hexL_lt h]
  · rw [if_neg h, hexL_ge h]
theorem dec_len (k : Nat) : ∀ u, u < 10 ^ (k + 1) → (Lib.decDigits u).length ≤ k + 1 := by
  induction k with
  | zero => intro u hu; rw [dec_rec, if_pos (by simpa using hu)]; simp
  | succ k ih =>
    intro u hu
    rw [dec_rec]
    split
    · simp
    · have := ih (u / 10) (by rw [Nat.pow_succ] at hu; omega)
      simp; omega
theorem rdec_any (u : Nat) (hu : u < 18446744073709551616) (w : World) :
    Calls Tryd.prog 34 #[.int .u64 u, .int .u64 10] w fun e w' => e = .returned (.string (S (Lib.decDigits u))) ∧ Below w.heap.size w w' :=
  rdigits_any Lib.decDigits 10 (by decide) dec_rec u hu (by have := dec_len 19 u (by omega); omega) w
theorem rhex_any (u : Nat) (hu : u < 18446744073709551616) (w : World) :
    Calls Tryd.prog 34 #[.int .u64 u, .int .u64 16] w fun e w' => e = .returned (.string (S (hexL u))) ∧ Below w.heap.size w w' :=
  rdigits_any hexL 16 (by decide) hex_rec u hu (by have := hexL_length 15 u (by omega); omega) w
set_option maxRecDepth 100000 in
set_option maxHeartbeats 400000 in
theorem rnumber_any (v : Int) (hv : -9223372036854775808 ≤ v ∧ v ≤ 9223372036854775807) (w : World) :
    Calls Tryd.prog 19 #[.int .i64 v] w fun e w' => e = .returned (.string (S (Lib.itoa v))) ∧ Below w.heap.size w w' := by
  by_cases hn : v < 0
  · have h1 := Lib.hid (rdec_any v.natAbs (by omega) w)
    have hi : Hid (Lib.itoa v = 45 :: Lib.decDigits v.natAbs) := Lib.hid (by unfold Lib.itoa; rw [if_pos hn])
    have e1 : IntKind.u64.wrap v = v + 18446744073709551616 := by rw [IntKind.wrap_u64]; omega
    have e2 : IntKind.u64.wrap (-(v + 18446744073709551616)) = (v.natAbs : Int) := by rw [IntKind.wrap_u64]; omega
    have e3 : ∀ l, ByteArray.mk #[45] ++ S l = S (45 :: l) := fun l => S_append [45] l
    have e4 : ¬ (9223372036854775807 : Int) < 1 + ((Lib.decDigits v.natAbs).length : Int) := by have := dec_len 19 v.natAbs (by omega); omega
    go_enter Tryd.func19, Tryd.ntmps19
    go_wp2_with (go_at_call 34; refine h1.out.mono ?_; rintro r w1 ⟨rfl, hb1⟩)
    go_ret
    exact ⟨by rw [hi.out]; rfl, hb1⟩
  · have h1 := Lib.hid (rdec_any v.toNat (by omega) w)
    have hi : Hid (Lib.itoa v = Lib.decDigits v.toNat) := Lib.hid (by unfold Lib.itoa; rw [if_neg hn])
    have e1 : IntKind.u64.wrap v = (v.toNat : Int) := by rw [IntKind.wrap_u64]; omega
    obtain ⟨u, rfl⟩ : ∃ u : Nat, v = u := ⟨v.toNat, by omega⟩
    replace e1 : IntKind.u64.wrap (u : Int) = (u : Int) := e1
    go_enter Tryd.func19, Tryd.ntmps19
    go_wp2_with (go_at_call 34; refine h1.out.mono ?_; rintro r w1 ⟨rfl, hb1⟩)
    go_ret
    exact ⟨by rw [hi.out]; rfl, hb1⟩
end Go.Proofs.YtkeiehgojclecaaDoor
