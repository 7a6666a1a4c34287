/- ParseUint at base 16: what the walk of it gives. -/
import Derived.Test.YtkeiehgojclecaaDoorScrL

namespace Go.Proofs.YtkeiehgojclecaaDoor

open Go.RowKit

/-- The number that digits of base 16 are, so long as they fit. -/
def hexP (acc : Nat) : List UInt8 → Option Nat
  | [] => some acc
  | c :: r =>
    if 48 ≤ c.toNat ∧ c.toNat ≤ 57 then (if acc * 16 + (c.toNat - 48) < 18446744073709551616 then hexP (acc * 16 + (c.toNat - 48)) r else none)
    else if 97 ≤ c.toNat ∧ c.toNat ≤ 102 then (if acc * 16 + (c.toNat - 87) < 18446744073709551616 then hexP (acc * 16 + (c.toNat - 87)) r else none)
    else none
theorem or32 : ∀ c : Fin 256, (97 ≤ c.val ∧ c.val ≤ 122 → bits .or .u8 (c.val : Int) 32 = c.val) := by decide +kernel
theorem or32_letter {c : UInt8} (h : 97 ≤ c.toNat ∧ c.toNat ≤ 122) : bits .or .u8 (c.toNat : Int) 32 = c.toNat := or32 ⟨c.toNat, c.toNat_lt⟩ h
set_option maxHeartbeats 32000000 in
set_option maxRecDepth 100000 in
theorem parseUint0_any (t : ByteArray) (hne : t.size ≠ 0) (hmax : t.size ≤ 9223372036854775806) (w : World) :
    Calls Tryd.prog 81 #[.string t, .int .i64 16, .int .i64 64] w fun e w' => ∃ (v : Int) (ev : Value), e = .returned (.tuple #[.int .u64 v, ev]) ∧ (0 ≤ v ∧ v < 18446744073709551616) ∧ (ev = .nilIface ∨ ev = .iface 138 (.int .i64 1) ∨ ev = .iface 138 (.int .i64 2)) ∧ (∀ r, hexP 0 t.data.toList = some r → ev = .nilIface ∧ v = r) ∧ w' = Lib.bytesWorld w 5 t := by
  have hemp : t.toList.isEmpty = false := by
    rw [← decide_eq_emptyBytes]
    exact decide_eq_false (fun h => hne (by rw [h]; rfl))
  have hcv := Lib.run_convert_string_bytes (P := Tryd.prog) w 9 63 5 t (u := .string) Tryd.underlying9 Tryd.underlying63 Tryd.underlying5
  have hB : ∀ j, j < t.size → (Lib.bytesWorld w 5 t).cell? ⟨w.heap.size, j, none⟩ = some (.int .u8 (t.data.toList.getD j 0).toNat) := fun j hj => Lib.bytesWorld_cell w 5 t j hj
  obtain ⟨W1, hW1⟩ : ∃ W1, W1 = Lib.bytesWorld w 5 t := ⟨_, rfl⟩
  rw [← hW1] at hcv hB ⊢
  clear hW1
  obtain ⟨bs, hL⟩ : ∃ bs, bs = t.data.toList := ⟨_, rfl⟩
  have hLn : bs.length = t.size := by rw [hL, Lib.size_eq]
  rw [← hL] at hB ⊢
  clear hL
  have hmv : IntKind.u64.wrap (IntKind.u64.wrap 18446744073709551616 - 1) = 18446744073709551615 := by
    rw [IntKind.wrap_u64, IntKind.wrap_u64]
    decide
  go_enter Tryd.func81, Tryd.ntmps81
  go_wp2
  go_loop [12, 13, 101] (fun vu vn vi => ∃ (k : Nat) (a : Int), vu = .bool false ∧ vn = .int .u64 a ∧ vi = .int .i64 k ∧ k ≤ t.size ∧ Hid ((0 ≤ a ∧ a < 18446744073709551616) ∧ ∀ r, hexP 0 bs = some r → hexP a.toNat (bs.drop k) = some r))
    (fun _ _ vi => t.size - (intOf vi).toNat)
  case atStart => exact ⟨0, 0, rfl, rfl, rfl, by omega, by omega, fun r h => h⟩
  case round =>
    obtain ⟨k, a, rfl, rfl, rfl, hk, hh⟩ := hrel
    obtain ⟨⟨a0, a1⟩, hdec⟩ := hh.out
    clear hh
    replace hdec := Lib.hid hdec
    by_cases hkn : k < t.size
    · have hc := hB k hkn
      have hdrop : bs.drop k = bs[k]'(by omega) :: bs.drop (k + 1) := List.drop_eq_getElem_cons (by omega)
      have hget : bs.getD k 0 = bs[k]'(by omega) := by simp [List.getD, List.getElem?_eq_getElem (show k < bs.length by omega)]
      rw [hdrop] at hdec
      rw [hget] at hc
      generalize bs[k]'(by omega) = c at hc hdec
      have hc256 : c.toNat < 256 := c.toNat_lt
      clear hB hdrop hget
      by_cases hcut : 1152921504606846976 ≤ a
      · have hno : Hid (∀ r, hexP 0 bs = some r → False) := Lib.hid fun r h => by
          have := hdec.out r h
          unfold hexP at this
          split at this
          · rw [if_neg (by omega)] at this; cases this
          · split at this
            · rw [if_neg (by omega)] at this; cases this
            · cases this
        clear hdec
        by_cases hdig : 48 ≤ c.toNat ∧ c.toNat ≤ 57
        · obtain ⟨hd0, hd1⟩ := hdig
          go_wp2
          go_ret2
          exact ⟨_, _, rfl, ⟨by omega, by omega⟩, .inr (.inl rfl), fun r h => (hno.out r h).elim, rfl⟩
        · have hv0 := bits_lo_u8 .or (c.toNat : Int) 32
          have hv1 := bits_hi_u8 .or (c.toNat : Int) 32
          have hu0 := bits_lo_u8 .or 95 32
          have hu1 := bits_hi_u8 .or 95 32
          go_wp2_with (go_at_call 97; refine (Tryd.internal_strconv_lower _ _).mono ?_; rintro e w' ⟨rfl, rfl⟩)
          all_goals go_ret2
          all_goals exact ⟨_, _, rfl, ⟨by omega, by omega⟩, by first | exact .inr (.inl rfl) | exact .inr (.inr rfl), fun r h => (hno.out r h).elim, rfl⟩
      · have a2 : a < 1152921504606846976 := by omega
        by_cases hdig : 48 ≤ c.toNat ∧ c.toNat ≤ 57
        · obtain ⟨hd0, hd1⟩ := hdig
          have hF : Hid ((0 ≤ a * 16 + ((c.toNat : Int) - 48) ∧ a * 16 + ((c.toNat : Int) - 48) < 18446744073709551616) ∧ ∀ r, hexP 0 bs = some r → hexP (a * 16 + ((c.toNat : Int) - 48)).toNat (bs.drop (k + 1)) = some r) := Lib.hid ⟨by omega, fun r h => by
            have := hdec.out r h
            rw [hexP, if_pos ⟨hd0, hd1⟩, if_pos (by omega)] at this
            rw [show (a * 16 + ((c.toNat : Int) - 48)).toNat = a.toNat * 16 + (c.toNat - 48) by omega]
            exact this⟩
          have w1 : a * 16 + ((c.toNat : Int) - 48) < 18446744073709551616 := by omega
          clear hdec hcut
          go_wp2
          exact ⟨⟨k + 1, _, rfl, rfl, by go_num, by omega, hF⟩, by simp [intOf]; omega⟩
        · have h95 : bits .or .u8 95 32 = 127 := by decide +kernel
          have hv0 := bits_lo_u8 .or (c.toNat : Int) 32
          have hv1 := bits_hi_u8 .or (c.toNat : Int) 32
          have hLc : 97 ≤ c.toNat ∧ c.toNat ≤ 102 → bits .or .u8 (c.toNat : Int) 32 = c.toNat := fun h => or32_letter ⟨h.1, by omega⟩
          have hin : Hid (∀ r, hexP 0 bs = some r → 97 ≤ c.toNat ∧ c.toNat ≤ 102) := Lib.hid fun r h => by
            have := hdec.out r h
            rw [hexP, if_neg hdig] at this
            split at this
            · assumption
            · cases this
          by_cases hLx : 97 ≤ bits .or .u8 (c.toNat : Int) 32 ∧ bits .or .u8 (c.toNat : Int) 32 ≤ 102
          · have hc95 : ¬ (c.toNat : Int) = 95 := fun h => by rw [h, h95] at hLx; omega
            have hF : Hid ((0 ≤ a * 16 + (bits .or .u8 (c.toNat : Int) 32 - 97 + 10) ∧ a * 16 + (bits .or .u8 (c.toNat : Int) 32 - 97 + 10) < 18446744073709551616) ∧ ∀ r, hexP 0 bs = some r → hexP (a * 16 + (bits .or .u8 (c.toNat : Int) 32 - 97 + 10)).toNat (bs.drop (k + 1)) = some r) := Lib.hid ⟨by omega, fun r h => by
              have h1 := hdec.out r h
              have h2 := hin.out r h
              rw [hLc h2]
              rw [hexP, if_neg hdig, if_pos h2, if_pos (by omega)] at h1
              rw [show (a * 16 + ((c.toNat : Int) - 97 + 10)).toNat = a.toNat * 16 + (c.toNat - 87) by omega]
              exact h1⟩
            obtain ⟨l0, l1⟩ := hLx
            clear hdec hcut hLc hin h95
            generalize hL : bits .or .u8 (c.toNat : Int) 32 = L at *
            have w1 : a * 16 + (L - 97 + 10) < 18446744073709551616 := by omega
            go_wp2_with (go_at_call 97; refine (Tryd.internal_strconv_lower _ _).mono ?_; rintro e w' ⟨rfl, rfl⟩)
            all_goals exact ⟨⟨k + 1, _, rfl, rfl, by go_num, by omega, hF⟩, by simp [intOf]; omega⟩
          · have hno : Hid (∀ r, hexP 0 bs = some r → False) := Lib.hid fun r h => by
              have h2 := hin.out r h
              have h3 := hLc h2
              omega
            clear hdec hcut hLc hin
            generalize hL : bits .or .u8 (c.toNat : Int) 32 = L at *
            go_wp2_with (go_at_call 97; refine (Tryd.internal_strconv_lower _ _).mono ?_; rintro e w' ⟨rfl, rfl⟩)
            all_goals go_ret2
            all_goals exact ⟨_, _, rfl, ⟨by omega, by omega⟩, by first | exact .inr (.inl rfl) | exact .inr (.inr rfl), fun r h => (hno.out r h).elim, rfl⟩
    · have hkk : k = t.size := by omega
      subst hkk
      have hF : Hid (∀ r, hexP 0 bs = some r → a = r) := Lib.hid fun r h => by
        have := hdec.out r h
        rw [List.drop_eq_nil_of_le (by omega)] at this
        unfold hexP at this
        injection this with this
        omega
      clear hdec
      go_wp2
      go_ret2
      exact ⟨a, _, rfl, ⟨a0, a1⟩, .inl rfl, fun r h => ⟨rfl, hF.out r h⟩, rfl⟩
end Go.Proofs.YtkeiehgojclecaaDoor
