/- The reference's readBias. -/
import Derived.Test.YtkeiehgojclecaaDoorRfI

import Derived.Laws.BitsLemmas

namespace Go.Proofs.YtkeiehgojclecaaDoor

open Go.RowKit

attribute [local go_sem ↓] Go.wp_at_zero Go.wp_at_succ

def BiasAns (l : List UInt8) (e : Ending) : Prop := ∃ x : Nat, e = .returned (.tuple #[F64 x, .bool (rdO l).isSome]) ∧ ∀ r, rdO l = some r → x = r
theorem BiasAns.no {l : List UInt8} {x : Nat} (h : rdO l = none) : BiasAns l (.returned (.tuple #[F64 x, .bool false])) := ⟨x, by rw [h]; rfl, fun z hz => by rw [h] at hz; cases hz⟩
theorem BiasAns.yes {l : List UInt8} {x : Nat} (h : rdO l = some x) : BiasAns l (.returned (.tuple #[F64 x, .bool true])) := ⟨x, by rw [h]; rfl, fun y hy => by rw [h] at hy; injection hy⟩
theorem hexd_nat {d : Nat} (h : d < 16) : (hexd d).toNat = if d < 10 then 48 + d else 87 + d := by
  unfold hexd
  rw [UInt8.toNat_ofNat', Nat.mod_eq_of_lt]
  split <;> omega
theorem hex_cons {a u : Nat} {c : UInt8} {r : List UInt8} (h : hexP a (c :: r) = some u) : ∃ d, d < 16 ∧ c = hexd d ∧ hexP (a * 16 + d) r = some u := by
  simp only [hexP] at h
  split at h
  · rename_i hc
    split at h
    · exact ⟨c.toNat - 48, by omega, UInt8.toNat_inj.1 (by rw [hexd_nat (by omega), if_pos (by omega)]; omega), h⟩
    · cases h
  · split at h
    · rename_i hc
      split at h
      · exact ⟨c.toNat - 87, by omega, UInt8.toNat_inj.1 (by rw [hexd_nat (by omega), if_neg (by omega)]; omega), h⟩
      · cases h
    · cases h
theorem hex_range {l : List UInt8} {a u : Nat} (h : hexP a l = some u) : a * 16 ^ l.length ≤ u ∧ u < (a + 1) * 16 ^ l.length := by
  induction l generalizing a with
  | nil => simp [hexP] at h; subst h; simp
  | cons c r ih =>
    obtain ⟨d, hd, _, h2⟩ := hex_cons h
    obtain ⟨h3, h4⟩ := ih h2
    rw [List.length_cons, Nat.pow_succ]
    generalize 16 ^ r.length = N at *
    have e1 : a * (N * 16) = (a * 16) * N := by rw [Nat.mul_comm N 16, Nat.mul_assoc]
    have e2 : (a + 1) * (N * 16) = ((a + 1) * 16) * N := by rw [Nat.mul_comm N 16, Nat.mul_assoc]
    rw [e1, e2]
    exact ⟨Nat.le_trans (Nat.mul_le_mul_right N (by omega)) h3, Nat.lt_of_lt_of_le h4 (Nat.mul_le_mul_right N (by omega))⟩
theorem hex_inj {l m : List UInt8} {a u : Nat} (hl : l.length = m.length) (h1 : hexP a l = some u) (h2 : hexP a m = some u) : l = m := by
  induction l generalizing m a with
  | nil => cases m with
    | nil => rfl
    | cons _ _ => simp at hl
  | cons c r ih => cases m with
    | nil => simp at hl
    | cons c' r' =>
      obtain ⟨d, hd, hc, h3⟩ := hex_cons h1
      obtain ⟨d', hd', hc', h4⟩ := hex_cons h2
      have hl' : r.length = r'.length := by simpa using hl
      obtain ⟨g1, g2⟩ := hex_range h3
      obtain ⟨g3, g4⟩ := hex_range h4
      rw [← hl'] at g3 g4
      generalize 16 ^ r.length = N at *
      have hdd : d = d' := by
        rcases Nat.lt_trichotomy d d' with h | h | h
        · have := Nat.mul_le_mul_right N (show a * 16 + d + 1 ≤ a * 16 + d' by omega); omega
        · exact h
        · have := Nat.mul_le_mul_right N (show a * 16 + d' + 1 ≤ a * 16 + d by omega); omega
      subst hdd
      rw [hc, hc', ih hl' h3 h4]
theorem rd_16 {l : List UInt8} {u : Nat} (hl : l.length = 16) (h : hexP 0 l = some u) : rdO l = if Fl.nan u = true then none else some u := by
  have hu : u < 18446744073709551616 := by have := (hex_range h).2; rw [hl] at this; simpa using this
  have hp : pad16 u = l := hex_inj (by rw [pad16_length hu, hl]) (hexP_pad u hu) h
  unfold rdO
  rw [if_neg (by intro e; rw [e] at hl; simp at hl), h, Option.bind_some]
  unfold wrL
  by_cases hn : Fl.nan u = true
  · rw [if_pos hn, if_pos hn, if_neg (by intro e; rw [← e] at hl; simp at hl)]
  · rw [if_neg hn, if_neg hn, if_pos hp]
theorem rd_none {l : List UInt8} (h0 : l ≠ [110, 97, 110]) (h : l.length = 16 → hexP 0 l = none) : rdO l = none := by
  cases e : rdO l with
  | none => rfl
  | some x =>
    rcases (rdO_iff l x).1 e with ⟨h1, _⟩ | ⟨h1, _, h3⟩
    · exact absurd h1 h0
    · have := h (by rw [h3]; exact pad16_length h1)
      rw [h3, hexP_pad x h1] at this
      cases this
theorem six_16 {u i : Nat} (h : u < 16 ^ i) (hi : i ≤ 15) : u < 1152921504606846976 := Nat.lt_of_lt_of_le h (Nat.pow_le_pow_right (by decide) hi : 16 ^ i ≤ 16 ^ 15)
theorem wraps64 (n : Int) (h0 : 0 ≤ n) (h1 : n < 18446744073709551616) : IntKind.u64.wrap n = n := by rw [IntKind.wrap_u64]; omega
theorem or_16 {u e : Nat} (hu : u < 1152921504606846976) (he : e < 16) : bits .or .u64 (IntKind.u64.wrap ((u : Int) * 16)) (e : Int) = ((u * 16 + e : Nat) : Int) := by
  rw [wraps64 _ (by omega) (by omega), bits_join .u64 64 (by decide) (fun n a b => wraps64 n a b) 4 _ _ (by omega) (by show _ % 16 = _; omega) (by omega) (by omega) (by show _ < (16 : Int); omega) (by omega)]
  omega
theorem hex_next {l : List UInt8} {n i e : Nat} {X : Int} (h : n = 16 → ∃ u : Nat, X = u ∧ hexP 0 l = hexP u (l.drop i) ∧ u < 16 ^ i) (hi : i < n) (he : e < 16)
    (hs : ∀ u, hexP u (l.drop i) = if u * 16 + e < 18446744073709551616 then hexP (u * 16 + e) (l.drop (i + 1)) else none) :
    n = 16 → ∃ u : Nat, bits .or .u64 (IntKind.u64.wrap (X * 16)) (e : Int) = u ∧ hexP 0 l = hexP u (l.drop (i + 1)) ∧ u < 16 ^ (i + 1) := by
  intro hn
  obtain ⟨u, rfl, h2, h3⟩ := h hn
  have hu := six_16 h3 (by omega)
  refine ⟨u * 16 + e, or_16 hu he, ?_, by rw [Nat.pow_succ]; omega⟩
  rw [h2, hs, if_pos (by omega)]
set_option maxRecDepth 100000 in
set_option maxHeartbeats 1000000 in
theorem readBias_any (l : List UInt8) (hl : l.length < 1000000) (w : World) :
    Calls Tryd.prog 45 #[.string (S l)] w fun e w' => BiasAns l e ∧ w' = w := by
  have hsz : (S l).size = l.length := S_size l
  have hnv := Lib.hid (fun X => nanV_any X)
  by_cases hn : l = [110, 97, 110]
  · have hro : Hid (rdO l = some nanV) := Lib.hid (by unfold rdO; rw [if_pos hn])
    have e1 : (l == [110, 97, 110]) = true := by simp [hn]
    subst hn
    go_enter Tryd.func45, Tryd.ntmps45
    go_wp2_with (go_at_call 57; refine (hnv.out _).mono ?_; rintro r w1 ⟨rfl, hw⟩; obtain rfl := hw.symm)
    go_ret2
    exact ⟨BiasAns.yes hro.out, rfl⟩
  · have e1 : (l == [110, 97, 110]) = false := by simpa using hn
    have hrn := Lib.hid (fun h => rd_none hn h)
    have hr16 := Lib.hid (fun u h1 h2 => rd_16 (l := l) (u := u) h1 h2)
    replace hn := Lib.hid hn
    obtain ⟨n, hnn, hnn'⟩ : ∃ n, Hid (n = l.length) ∧ n = l.length := ⟨_, Lib.hid rfl, rfl⟩
    rw [← hnn'] at hsz hl
    clear hnn'
    have hfb := fun (v : Int) X => run_frombits v X
    go_enter Tryd.func45, Tryd.ntmps45
    go_wp2_with fail
    go_loopw [4, 5, 6, 17, 33] (fun v4 v5 _ _ _ wr => ∃ (i : Nat) (X : Int), v4 = .int .u64 X ∧ v5 = .int .i64 i ∧ i ≤ n ∧ wr = w ∧ Hid (n = 16 → ∃ u : Nat, X = u ∧ hexP 0 l = hexP u (l.drop i) ∧ u < 16 ^ i)) (fun _ v5 _ _ _ _ => n - (intOf v5).toNat)
    case atStart => exact ⟨0, 0, rfl, rfl, by omega, rfl, Lib.hid fun _ => ⟨0, rfl, rfl, by decide⟩⟩
    case round =>
      obtain ⟨i, X, rfl, rfl, hi, rfl, hd⟩ := hrel
      by_cases hlt : i < n
      · have hlt' : (i : Int) < (n : Int) := by omega
        have hi0 : (0 : Int) ≤ (i : Int) := by omega
        have hit : ((i : Int)).toNat = i := by omega
        have wi1 : IntKind.i64.wrap ((i : Int) + 1) = (i : Int) + 1 := IntWalk.i64_in _ ⟨by omega, by omega⟩
        have hil : i < l.length := by have := hnn.out; omega
        obtain ⟨d, hdd, hdd'⟩ : ∃ d : Nat, Hid (d = l[i].toNat) ∧ d = l[i].toNat := ⟨_, Lib.hid rfl, rfl⟩
        have hd255 : d < 256 := by rw [hdd']; exact UInt8.toNat_lt _
        have hx : ∀ h : i < (S l).size, ((S l)[i]'h).toNat = d := fun h => by rw [S_get, hdd']
        have hstep : ∀ u, hexP u (l.drop i) = if 48 ≤ d ∧ d ≤ 57 then (if u * 16 + (d - 48) < 18446744073709551616 then hexP (u * 16 + (d - 48)) (l.drop (i + 1)) else none) else if 97 ≤ d ∧ d ≤ 102 then (if u * 16 + (d - 87) < 18446744073709551616 then hexP (u * 16 + (d - 87)) (l.drop (i + 1)) else none) else none := fun u => by
          rw [List.drop_eq_getElem_cons hil, hexP, ← hdd']
        clear hdd'
        replace hstep := Lib.hid hstep
        replace hil := Lib.hid hil
        by_cases h1 : 48 ≤ d ∧ d ≤ 57
        · have d1 : (48 : Int) ≤ (d : Int) := by omega
          have d2 : (d : Int) ≤ 57 := by omega
          have w2 : IntKind.u8.wrap ((d : Int) - 48) = ((d - 48 : Nat) : Int) := by rw [IntKind.wrap_u8]; omega
          have w3 : IntKind.u64.wrap ((d - 48 : Nat) : Int) = ((d - 48 : Nat) : Int) := by rw [IntKind.wrap_u64]; omega
          replace h1 := Lib.hid h1
          obtain ⟨e, he, he'⟩ : ∃ e, Hid (e = d - 48) ∧ e = d - 48 := ⟨_, Lib.hid rfl, rfl⟩
          rw [← he'] at w2 w3
          clear he'
          have hnext : Hid (n = 16 → ∃ u : Nat, bits .or .u64 (IntKind.u64.wrap (X * 16)) (e : Int) = u ∧ hexP 0 l = hexP u (l.drop (i + 1)) ∧ u < 16 ^ (i + 1)) :=
            Lib.hid (hex_next hd.out hlt (by have := he.out; have := h1.out; omega) fun u => by rw [hstep.out u, if_pos h1.out, ← he.out])
          go_wp2_with fail
          exact ⟨⟨i + 1, _, rfl, by go_num, by omega, trivial, hnext⟩, by simp [intOf]; omega⟩
        · by_cases h2 : 97 ≤ d ∧ d ≤ 102
          · have d1 : (48 : Int) ≤ (d : Int) := by omega
            have d2 : ¬ (d : Int) ≤ 57 := by omega
            have d3 : (97 : Int) ≤ (d : Int) := by omega
            have d4 : (d : Int) ≤ 102 := by omega
            have w2 : IntKind.u8.wrap ((d : Int) - 97) = ((d - 97 : Nat) : Int) := by rw [IntKind.wrap_u8]; omega
            have w3 : IntKind.u64.wrap ((d - 97 : Nat) : Int) = ((d - 97 : Nat) : Int) := by rw [IntKind.wrap_u64]; omega
            have w4 : IntKind.u64.wrap (((d - 97 : Nat) : Int) + 10) = ((d - 87 : Nat) : Int) := by rw [IntKind.wrap_u64]; omega
            replace h1 := Lib.hid h1
            replace h2 := Lib.hid h2
            obtain ⟨e, he, he'⟩ : ∃ e, Hid (e = d - 87) ∧ e = d - 87 := ⟨_, Lib.hid rfl, rfl⟩
            rw [← he'] at w4
            clear he'
            have hnext : Hid (n = 16 → ∃ u : Nat, bits .or .u64 (IntKind.u64.wrap (X * 16)) (e : Int) = u ∧ hexP 0 l = hexP u (l.drop (i + 1)) ∧ u < 16 ^ (i + 1)) :=
              Lib.hid (hex_next hd.out hlt (by have := he.out; have := h2.out; omega) fun u => by rw [hstep.out u, if_neg h1.out, if_pos h2.out, ← he.out])
            generalize d - 97 = d97 at *
            go_wp2_with fail
            exact ⟨⟨i + 1, _, rfl, by go_num, by omega, trivial, hnext⟩, by simp [intOf]; omega⟩
          · have hno : Hid (rdO l = none) := Lib.hid (hrn.out fun h16 => by
              obtain ⟨u, _, g2, _⟩ := hd.out (hnn.out.trans h16)
              rw [g2, hstep.out u, if_neg h1, if_neg h2])
            by_cases c1 : d < 48
            · have d1 : ¬ (48 : Int) ≤ (d : Int) := by omega
              have d3 : ¬ (97 : Int) ≤ (d : Int) := by omega
              replace h1 := Lib.hid h1
              replace h2 := Lib.hid h2
              go_wp2_with fail
              go_ret2
              exact ⟨BiasAns.no hno.out, rfl⟩
            · have d1 : (48 : Int) ≤ (d : Int) := by omega
              have d2 : ¬ (d : Int) ≤ 57 := by omega
              by_cases c2 : d < 97
              · have d3 : ¬ (97 : Int) ≤ (d : Int) := by omega
                replace h1 := Lib.hid h1
                replace h2 := Lib.hid h2
                go_wp2_with fail
                go_ret2
                exact ⟨BiasAns.no hno.out, rfl⟩
              · have d3 : (97 : Int) ≤ (d : Int) := by omega
                have d4 : ¬ (d : Int) ≤ 102 := by omega
                replace h1 := Lib.hid h1
                replace h2 := Lib.hid h2
                go_wp2_with fail
                go_ret2
                exact ⟨BiasAns.no hno.out, rfl⟩
      · have hik : i = n := by omega
        subst hik
        have hj0 : ¬ ((i : Int) < (i : Int)) := by omega
        have hfb2 := hfb X
        clear hfb
        by_cases h16 : i = 16
        · obtain ⟨u, hX, g2, _⟩ := hd.out h16
          rw [List.drop_of_length_le (by rw [← hnn.out]; exact Nat.le_refl _)] at g2
          have hr := hr16.out u (hnn.out.symm.trans h16) g2
          have e16 : ((i : Int) == 16) = true := by rw [h16]; rfl
          rw [hX] at hfb2 ⊢
          rw [Int.toNat_natCast] at hfb2
          clear hX hd g2
          have nb : (FloatKind.f64.format.order u u == some .eq) = !Fl.nan u := by rw [fmt_eq, Fl.order_eqB, Fl.eq_self]
          replace h16 := Lib.hid h16
          cases hnu : Fl.nan u with
          | true =>
            rw [hnu] at nb
            rw [if_pos hnu] at hr
            replace hr := Lib.hid hr
            clear hnu
            go_wp2_with fail
            go_ret2
            exact ⟨BiasAns.no hr.out, rfl⟩
          | false =>
            rw [hnu] at nb
            rw [if_neg (by rw [hnu]; decide)] at hr
            replace hr := Lib.hid hr
            clear hnu
            go_wp2_with fail
            go_ret2
            exact ⟨BiasAns.yes hr.out, rfl⟩
        · have e16 : ((i : Int) == 16) = false := by simpa using (by omega : (i : Int) ≠ 16)
          have hno : Hid (rdO l = none) := Lib.hid (hrn.out fun h => absurd (hnn.out.trans h) h16)
          replace h16 := Lib.hid h16
          go_wp2_with fail
          go_ret2
          exact ⟨BiasAns.no hno.out, rfl⟩
end Go.Proofs.YtkeiehgojclecaaDoor
